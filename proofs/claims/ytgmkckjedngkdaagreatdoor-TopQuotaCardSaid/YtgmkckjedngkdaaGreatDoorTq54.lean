/- clepsydratop.TopQuota holds of every input: it returns true, and each argument reads afterwards as it read before. No condition. -/
import Derived.Test.YtgmkckjedngkdaaGreatDoorTq53
import Derived.Test.YtgmkckjedngkdaaGreatDoorCards
import Derived.Test.YtgmkckjedngkdaaGreatDoorTie
import Derived.ProofKit
import Derived.LaidLaws
import Derived.LaidMore
import Derived.OpenShut
import Derived.Stop.Joined
import Derived.SevenTiedAt
set_option linter.unusedVariables false
set_option linter.unusedSimpArgs false
namespace Go.Proofs.YtgmkckjedngkdaaGreatDoor.topQuota
open Go.ChangeShapes Go.WideShapes Go.ChangeAt Go.RowKit
set_option maxRecDepth 100000 in
theorem g2:true=Tryz.pinned.checked.prog.looks []:=by kernel_rfl
set_option maxRecDepth 100000 in
theorem g3:false=Rows.topQuotaRow.goesBy Tryz.pinned.checked.prog:=by kernel_rfl
set_option maxHeartbeats 8000000 in
theorem proved:Rows.TopQuotaCardSaid :=
 Claim7.holds_tied_plain_at .later [] [.data, .data, .data, .sentinel, .sentinel] true (true, "c4175566edc1cf96a06628df133620289a2f4641f92d7021bf22accf7e185494") true
   row_holds (fun _ h=>by cases h) (by kernel_rfl) (fun _ h=>by cases h) topQuota_row_tie rfl ⟨rfl,rfl⟩ (by kernel_rfl) rfl
   (fun f fn hf hfn=>by
     obtain rfl : f = 3 := Option.some.inj ((show Tryz.prog.funcNamed "clepsydra/clepsydratop.TopQuota" = some 3 by kernel_rfl).symm.trans hf) |>.symm
     obtain rfl:fn=Tryz.f3:=(Option.some.inj (Tryz.func3.symm.trans hfn)).symm
     exact ⟨g2,fun j t ht=>by
       rw [Tryz.params3] at ht
       have hm:t ∈ [3,22]:=by simpa using Array.mem_of_getElem? ht
       have hall:([3,22].all fun u=>!Tryz.prog.wantsStandIn u)=true:=by kernel_rfl
       exact (show Tryz.prog.wantsStandIn t=false by simpa using List.all_eq_true.1 hall t hm)⟩)
   g3
#print axioms proved
end Go.Proofs.YtgmkckjedngkdaaGreatDoor.topQuota
