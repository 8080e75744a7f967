/-
  No cell of these rows narrows 'for every input' (looked for: loops, veiled, ifaces, maps, wideKeys, modest, calm, conditions, laid).
  DERIVED. THE GIVEN ROWS OF THIS SEAT. 5 by the template 'for every input the law returns true; each argument reads behind the call as it read before'; 0 by the template 'total and deterministic' (their statements: YtchkgmgechaflaaTotals.lean).
  GIVEN WITH THE SEED: the statements are not yours to turn. If you find one false, say at which input.
  Laid BY PROGRAM, IN A SANDBOX (cutbox-rows.mjs): the forced cells as the released guide's own fill.sh prints them over the translation ab859c17b40c6258… (all of the seat's roots in one cut). By AI agents, Wed Nov 11 2026. No macro, syntax, notation, axiom, sorry.
-/
import Derived.Test.YtchkgmgechaflaaChecked
import GoSem.Claim
import GoSem.ClaimJoined
import GoSem.ClaimMapViews
import Derived.JoinedTies
import Derived.KernelRfl
namespace Go.Proofs.Ytchkgmgechaflaa
/- THE CELL 'sum', in the pinned program and in every row, IS THE sha256 OF THE DUMP (.gsa) THAT YtchkgmgechaflaaProg.lean LOADS. Nothing in Lean hashes anything: it is a label: what it is worth is what the hold of that sum in a sandbox is worth. -/
noncomputable def Try.pinned : Pinned := { name := "ytchkgmgechaflaa", sum := "ab859c17b40c62588fe6a57c4515c8393e424addc88ff4965496621e43f2d72d", checked := Try.checked }
namespace Rows
def none {H : Type} : Left H := { results := [], args := [] }

/-- 'clepsydralaw22.FloorCollects': WHATEVER THE INPUT: true; the input reads as it did. -/
def floorCollectsSpec : ChangeSpec := { name := "floorCollects", fn := fun _ => fun
  | [d1, d2, d3, d4] => { results := [.lit (.bool true)], args := [d1, d2, d3, d4] }
  | _ => none }
def floorCollectsRow : OpenClaim := { program := "ytchkgmgechaflaa", sum := "ab859c17b40c62588fe6a57c4515c8393e424addc88ff4965496621e43f2d72d", func := "clepsydra/clepsydralaw22.FloorCollects", spec := "floorCollects", unfollowed := true, recurses := true, apart := false }
def FloorCollectsSaid : Prop := floorCollectsRow.holds Try.pinned (OpenSpec.ofChange floorCollectsSpec)

/-- ITS FALSE NEIGHBOUR: 'it returns false'. Refute it at one input. -/
def floorCollectsWrong : ChangeSpec := { name := "floorCollects", fn := fun _ => fun
  | [d1, d2, d3, d4] => { results := [.lit (.bool false)], args := [d1, d2, d3, d4] }
  | _ => none }
def FloorCollectsWrongFalsely : Prop := floorCollectsRow.holds Try.pinned (OpenSpec.ofChange floorCollectsWrong)

/-- 'clepsydralaw22.FloorFills': WHATEVER THE INPUT: true; the input reads as it did. -/
def floorFillsSpec : ChangeSpec := { name := "floorFills", fn := fun _ => fun
  | [d1, d2, d3] => { results := [.lit (.bool true)], args := [d1, d2, d3] }
  | _ => none }
def floorFillsRow : OpenClaim := { program := "ytchkgmgechaflaa", sum := "ab859c17b40c62588fe6a57c4515c8393e424addc88ff4965496621e43f2d72d", func := "clepsydra/clepsydralaw22.FloorFills", spec := "floorFills", unfollowed := true, recurses := true, apart := false }
def FloorFillsSaid : Prop := floorFillsRow.holds Try.pinned (OpenSpec.ofChange floorFillsSpec)

/-- ITS FALSE NEIGHBOUR: 'it returns false'. Refute it at one input. -/
def floorFillsWrong : ChangeSpec := { name := "floorFills", fn := fun _ => fun
  | [d1, d2, d3] => { results := [.lit (.bool false)], args := [d1, d2, d3] }
  | _ => none }
def FloorFillsWrongFalsely : Prop := floorFillsRow.holds Try.pinned (OpenSpec.ofChange floorFillsWrong)

/-- 'clepsydralaw22.FloorRises': WHATEVER THE INPUT: true; the input reads as it did. -/
def floorRisesSpec : ChangeSpec := { name := "floorRises", fn := fun _ => fun
  | [d1, d2, d3] => { results := [.lit (.bool true)], args := [d1, d2, d3] }
  | _ => none }
def floorRisesRow : OpenClaim := { program := "ytchkgmgechaflaa", sum := "ab859c17b40c62588fe6a57c4515c8393e424addc88ff4965496621e43f2d72d", func := "clepsydra/clepsydralaw22.FloorRises", spec := "floorRises", unfollowed := true, recurses := true, apart := false }
def FloorRisesSaid : Prop := floorRisesRow.holds Try.pinned (OpenSpec.ofChange floorRisesSpec)

/-- ITS FALSE NEIGHBOUR: 'it returns false'. Refute it at one input. -/
def floorRisesWrong : ChangeSpec := { name := "floorRises", fn := fun _ => fun
  | [d1, d2, d3] => { results := [.lit (.bool false)], args := [d1, d2, d3] }
  | _ => none }
def FloorRisesWrongFalsely : Prop := floorRisesRow.holds Try.pinned (OpenSpec.ofChange floorRisesWrong)

/-- 'clepsydralaw22.FloorEnds': WHATEVER THE INPUT: true; the input reads as it did. -/
def floorEndsSpec : ChangeSpec := { name := "floorEnds", fn := fun _ => fun
  | [d1, d2, d3] => { results := [.lit (.bool true)], args := [d1, d2, d3] }
  | _ => none }
def floorEndsRow : OpenClaim := { program := "ytchkgmgechaflaa", sum := "ab859c17b40c62588fe6a57c4515c8393e424addc88ff4965496621e43f2d72d", func := "clepsydra/clepsydralaw22.FloorEnds", spec := "floorEnds", unfollowed := true, recurses := true, apart := false }
def FloorEndsSaid : Prop := floorEndsRow.holds Try.pinned (OpenSpec.ofChange floorEndsSpec)

/-- ITS FALSE NEIGHBOUR: 'it returns false'. Refute it at one input. -/
def floorEndsWrong : ChangeSpec := { name := "floorEnds", fn := fun _ => fun
  | [d1, d2, d3] => { results := [.lit (.bool false)], args := [d1, d2, d3] }
  | _ => none }
def FloorEndsWrongFalsely : Prop := floorEndsRow.holds Try.pinned (OpenSpec.ofChange floorEndsWrong)

/-- 'clepsydralaw22.FloorTells': WHATEVER THE INPUT: true; the input reads as it did. -/
def floorTellsSpec : ChangeSpec := { name := "floorTells", fn := fun _ => fun
  | [d1, d2, d3, d4, d5] => { results := [.lit (.bool true)], args := [d1, d2, d3, d4, d5] }
  | _ => none }
def floorTellsRow : OpenClaim := { program := "ytchkgmgechaflaa", sum := "ab859c17b40c62588fe6a57c4515c8393e424addc88ff4965496621e43f2d72d", func := "clepsydra/clepsydralaw22.FloorTells", spec := "floorTells", unfollowed := true, recurses := true, apart := false }
def FloorTellsSaid : Prop := floorTellsRow.holds Try.pinned (OpenSpec.ofChange floorTellsSpec)

/-- ITS FALSE NEIGHBOUR: 'it returns false'. Refute it at one input. -/
def floorTellsWrong : ChangeSpec := { name := "floorTells", fn := fun _ => fun
  | [d1, d2, d3, d4, d5] => { results := [.lit (.bool false)], args := [d1, d2, d3, d4, d5] }
  | _ => none }
def FloorTellsWrongFalsely : Prop := floorTellsRow.holds Try.pinned (OpenSpec.ofChange floorTellsWrong)

/- THE SECOND FORM. 'bulk': how many values and letters a reading holds, each counted each time it is reached (what is shared counts as often as it is met; a slice's spare places count too). A statement '..UptoSaid' is the law's where the arguments, and the package variables that the reading takes, are together of bulk at most 1048576: NARROWER than '..Said'. Prove '..Said' where nothing that the law and all that it calls make is longer than what came in: it says more and counts as full. Else prove '..UptoSaid'. A law counts once. -/
mutual
def uptoBulk {H : Type} : DataW H → Nat
  | .lit (.string bytes) => bytes.length + 1
  | .lit _ => 1
  | .nil => 1
  | .ptr d => uptoBulk d + 1
  | .slice elems spare => uptoBulkAll elems + uptoBulkAll spare + 1
  | .agg parts => uptoBulkAll parts + 1
  | .iface _ d => uptoBulk d + 1
  | .map entries => uptoBulkEntries entries + 1
  | .held _ => 1
def uptoBulkAll {H : Type} : List (DataW H) → Nat
  | [] => 0
  | d :: r => uptoBulk d + uptoBulkAll r
def uptoBulkEntries {H : Type} : List (Lit × DataW H) → Nat
  | [] => 0
  | x :: r => uptoBulkEntry x + uptoBulkEntries r
def uptoBulkEntry {H : Type} : Lit × DataW H → Nat
  | (.string bytes, d) => bytes.length + uptoBulk d + 1
  | (_, d) => uptoBulk d + 1
 end
def uptoSmall : (H : Type) → List (DataW H) → Bool := fun _ ds => decide (uptoBulkAll ds ≤ 1048576)
def OpenSpec.upto (s : _root_.Go.ChangeSpec) : _root_.Go.OpenSpec := { _root_.Go.OpenSpec.ofChange s with cond := some uptoSmall }

/-- 'clepsydralaw22.FloorCollects', WHERE WHAT IT READS IS OF BULK AT MOST 1048576: true; the input reads as it did. -/
def floorCollectsUptoRow : OpenClaim := { program := "ytchkgmgechaflaa", sum := "ab859c17b40c62588fe6a57c4515c8393e424addc88ff4965496621e43f2d72d", func := "clepsydra/clepsydralaw22.FloorCollects", spec := "floorCollects", unfollowed := true, recurses := true, apart := false, narrowed := true }
def FloorCollectsUptoSaid : Prop := floorCollectsUptoRow.holds Try.pinned (OpenSpec.upto floorCollectsSpec)

/-- 'clepsydralaw22.FloorFills', WHERE WHAT IT READS IS OF BULK AT MOST 1048576: true; the input reads as it did. -/
def floorFillsUptoRow : OpenClaim := { program := "ytchkgmgechaflaa", sum := "ab859c17b40c62588fe6a57c4515c8393e424addc88ff4965496621e43f2d72d", func := "clepsydra/clepsydralaw22.FloorFills", spec := "floorFills", unfollowed := true, recurses := true, apart := false, narrowed := true }
def FloorFillsUptoSaid : Prop := floorFillsUptoRow.holds Try.pinned (OpenSpec.upto floorFillsSpec)

/-- 'clepsydralaw22.FloorRises', WHERE WHAT IT READS IS OF BULK AT MOST 1048576: true; the input reads as it did. -/
def floorRisesUptoRow : OpenClaim := { program := "ytchkgmgechaflaa", sum := "ab859c17b40c62588fe6a57c4515c8393e424addc88ff4965496621e43f2d72d", func := "clepsydra/clepsydralaw22.FloorRises", spec := "floorRises", unfollowed := true, recurses := true, apart := false, narrowed := true }
def FloorRisesUptoSaid : Prop := floorRisesUptoRow.holds Try.pinned (OpenSpec.upto floorRisesSpec)

/-- 'clepsydralaw22.FloorEnds', WHERE WHAT IT READS IS OF BULK AT MOST 1048576: true; the input reads as it did. -/
def floorEndsUptoRow : OpenClaim := { program := "ytchkgmgechaflaa", sum := "ab859c17b40c62588fe6a57c4515c8393e424addc88ff4965496621e43f2d72d", func := "clepsydra/clepsydralaw22.FloorEnds", spec := "floorEnds", unfollowed := true, recurses := true, apart := false, narrowed := true }
def FloorEndsUptoSaid : Prop := floorEndsUptoRow.holds Try.pinned (OpenSpec.upto floorEndsSpec)

/-- 'clepsydralaw22.FloorTells', WHERE WHAT IT READS IS OF BULK AT MOST 1048576: true; the input reads as it did. -/
def floorTellsUptoRow : OpenClaim := { program := "ytchkgmgechaflaa", sum := "ab859c17b40c62588fe6a57c4515c8393e424addc88ff4965496621e43f2d72d", func := "clepsydra/clepsydralaw22.FloorTells", spec := "floorTells", unfollowed := true, recurses := true, apart := false, narrowed := true }
def FloorTellsUptoSaid : Prop := floorTellsUptoRow.holds Try.pinned (OpenSpec.upto floorTellsSpec)

end Rows
end Go.Proofs.Ytchkgmgechaflaa
