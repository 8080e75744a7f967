/- A part of the proof that TopMajority holds: the closed facts of its row. Conditions: as typed. -/
import Derived.Test.YtgmkckjedngkdaaGreatDoorCards
import Derived.Test.YtgmkckjedngkdaaGreatDoorTie
import Derived.ProofKit
import Derived.LaidLaws
import Derived.LaidMore
import Derived.OpenShut
import Derived.Stop.Joined
import Derived.SevenTiedAt
set_option linter.unusedVariables false
set_option linter.unusedSimpArgs false
namespace Go.Proofs.YtgmkckjedngkdaaGreatDoor.topMajority
open Go.ChangeShapes Go.WideShapes Go.ChangeAt Go.RowKit
theorem own:ownKnob Tryz.prog.godebug=none:=by kernel_rfl
theorem laidOut:laidOutB Tryz.prog=true:=by kernel_rfl
def laidL : List (String × DataW Unit) := [("math/bits.deBruijn32tab", Rows.laid_math_bits_deBruijn32tab), ("math/bits.deBruijn64tab", Rows.laid_math_bits_deBruijn64tab), ("internal/strconv.uint64pow10", Rows.laid_internal_strconv_uint64pow10), ("strconv.ErrRange", Rows.laid_strconv_ErrRange), ("strconv.ErrSyntax", Rows.laid_strconv_ErrSyntax)]
theorem gE : Tryz.prog.globalNamed "strconv.ErrSyntax" = some 1 := by kernel_rfl
theorem tE:(Tryz.prog.globals[1]?).map (·.type)=some 339:=by kernel_rfl
theorem door_met (os:Os) (args:Array Value):laidMetH Tryz.prog laidL ((World.doorLaid Tryz.prog 62 os).forCall (fun _ _=>0) ⟨#[],args,[]⟩).memory :=
 laidMetH_of_parts3 (fuel:=8) (laidMet_of_run' 8 (by kernel_rfl) (by kernel_rfl)) (by kernel_rfl) (by kernel_rfl)
set_option maxRecDepth 100000 in
theorem q2:laidOutB Tryz.pinned.checked.prog=true:=by kernel_rfl
set_option maxRecDepth 100000 in
theorem q3:mapsRowed Tryz.pinned.checked.prog=true:=by kernel_rfl
set_option maxRecDepth 100000 in
theorem q10:(Rows.topMajorityRow.inPlace == Tryz.pinned.checked.prog.inPlace 4)=true:=by kernel_rfl
set_option maxRecDepth 100000 in
theorem q11:(Rows.topMajorityRow.unfollowed == Tryz.pinned.checked.prog.unfollowed 4)=true:=by kernel_rfl
set_option maxRecDepth 100000 in
theorem q12:(Rows.topMajorityRow.recurses == Tryz.pinned.checked.prog.recurses 4)=true:=by kernel_rfl
set_option maxRecDepth 100000 in
theorem q13:(Rows.topMajorityRow.named == Tryz.pinned.checked.prog.varsNamed 4)=true:=by kernel_rfl
set_option maxRecDepth 100000 in
theorem q20:(Rows.topMajorityRow.plainKeys == Tryz.pinned.checked.prog.plainKeys)=true:=by kernel_rfl
set_option maxRecDepth 100000 in
theorem q24:Tryz.pinned.checked.prog.stopsHeard=true:=by kernel_rfl
set_option maxRecDepth 100000 in
theorem q25:Tryz.pinned.checked.prog.mayEnter=true:=by kernel_rfl
set_option maxRecDepth 100000 in
theorem closed:joinedFacts Tryz.pinned.checked.prog 4 Tryz.f4 Rows.topMajoritySpec Rows.topMajorityRow=true:=by
 unfold joinedFacts
 rw [q2,q3,q10,q11,q12,q13,q20,q24,q25]
 kernel_rfl
set_option maxRecDepth 100000 in
theorem g2:true=Tryz.pinned.checked.prog.looks []:=by kernel_rfl
set_option maxRecDepth 100000 in
theorem g3:false=Rows.topMajorityRow.goesBy Tryz.pinned.checked.prog:=by kernel_rfl
end Go.Proofs.YtgmkckjedngkdaaGreatDoor.topMajority
