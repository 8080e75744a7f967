/-
  No cell of these rows narrows 'for every input' (looked for: loops, veiled, ifaces, maps, wideKeys, modest, calm, conditions, laid).
  DERIVED. THE GIVEN ROWS OF THIS SEAT. 9 by the template 'for every input the law returns true; each argument reads behind the call as it read before'; 0 by the template 'total and deterministic' (their statements: YtbhfokfdijnhhaaTotals.lean).
  GIVEN WITH THE SEED: the statements are not yours to turn. If you find one false, say at which input.
  Laid BY PROGRAM, IN A SANDBOX (cutbox-rows.mjs): the forced cells as the released guide's own fill.sh prints them over the translation 477a1513e0dc577d… (all of the seat's roots in one cut). By AI agents, Wed Nov 11 2026. No macro, syntax, notation, axiom, sorry.
-/
import Derived.Test.YtbhfokfdijnhhaaChecked
import GoSem.Claim
import GoSem.ClaimJoined
import GoSem.ClaimMapViews
import Derived.JoinedTies
import Derived.KernelRfl
namespace Go.Proofs.Ytbhfokfdijnhhaa
/- THE CELL 'sum', in the pinned program and in every row, IS THE sha256 OF THE DUMP (.gsa) THAT YtbhfokfdijnhhaaProg.lean LOADS. Nothing in Lean hashes anything: it is a label: what it is worth is what the hold of that sum in a sandbox is worth. -/
noncomputable def Try.pinned : Pinned := { name := "ytbhfokfdijnhhaa", sum := "477a1513e0dc577df38c83754222e684553a27621eacea6a52a9868ec2aeecdf", checked := Try.checked }
namespace Rows
def none {H : Type} : Left H := { results := [], args := [] }

/-- 'clepsydralaw6.StateJoins': WHATEVER THE INPUT: true; the input reads as it did. -/
def stateJoinsSpec : ChangeSpec := { name := "stateJoins", fn := fun _ => fun
  | [d1, d2, d3] => { results := [.lit (.bool true)], args := [d1, d2, d3] }
  | _ => none }
def stateJoinsRow : OpenClaim := { program := "ytbhfokfdijnhhaa", sum := "477a1513e0dc577df38c83754222e684553a27621eacea6a52a9868ec2aeecdf", func := "clepsydra/clepsydralaw6.StateJoins", spec := "stateJoins", inPlace := ["slices.overlaps[clepsydra/api.Item]"], unfollowed := true, recurses := true, apart := false }
def StateJoinsSaid : Prop := stateJoinsRow.holds Try.pinned (OpenSpec.ofChange stateJoinsSpec)

/-- ITS FALSE NEIGHBOUR: 'it returns false'. Refute it at one input. -/
def stateJoinsWrong : ChangeSpec := { name := "stateJoins", fn := fun _ => fun
  | [d1, d2, d3] => { results := [.lit (.bool false)], args := [d1, d2, d3] }
  | _ => none }
def StateJoinsWrongFalsely : Prop := stateJoinsRow.holds Try.pinned (OpenSpec.ofChange stateJoinsWrong)

/-- 'clepsydralaw6.StateTurns': WHATEVER THE INPUT: true; the input reads as it did. -/
def stateTurnsSpec : ChangeSpec := { name := "stateTurns", fn := fun _ => fun
  | [d1, d2] => { results := [.lit (.bool true)], args := [d1, d2] }
  | _ => none }
def stateTurnsRow : OpenClaim := { program := "ytbhfokfdijnhhaa", sum := "477a1513e0dc577df38c83754222e684553a27621eacea6a52a9868ec2aeecdf", func := "clepsydra/clepsydralaw6.StateTurns", spec := "stateTurns", inPlace := ["slices.overlaps[clepsydra/api.Item]"], unfollowed := true, recurses := true, apart := false }
def StateTurnsSaid : Prop := stateTurnsRow.holds Try.pinned (OpenSpec.ofChange stateTurnsSpec)

/-- ITS FALSE NEIGHBOUR: 'it returns false'. Refute it at one input. -/
def stateTurnsWrong : ChangeSpec := { name := "stateTurns", fn := fun _ => fun
  | [d1, d2] => { results := [.lit (.bool false)], args := [d1, d2] }
  | _ => none }
def StateTurnsWrongFalsely : Prop := stateTurnsRow.holds Try.pinned (OpenSpec.ofChange stateTurnsWrong)

/-- 'clepsydralaw6.StateLast': WHATEVER THE INPUT: true; the input reads as it did. -/
def stateLastSpec : ChangeSpec := { name := "stateLast", fn := fun _ => fun
  | [d1, d2, d3] => { results := [.lit (.bool true)], args := [d1, d2, d3] }
  | _ => none }
def stateLastRow : OpenClaim := { program := "ytbhfokfdijnhhaa", sum := "477a1513e0dc577df38c83754222e684553a27621eacea6a52a9868ec2aeecdf", func := "clepsydra/clepsydralaw6.StateLast", spec := "stateLast", inPlace := ["slices.overlaps[clepsydra/api.Item]"], unfollowed := true, recurses := true, apart := false }
def StateLastSaid : Prop := stateLastRow.holds Try.pinned (OpenSpec.ofChange stateLastSpec)

/-- ITS FALSE NEIGHBOUR: 'it returns false'. Refute it at one input. -/
def stateLastWrong : ChangeSpec := { name := "stateLast", fn := fun _ => fun
  | [d1, d2, d3] => { results := [.lit (.bool false)], args := [d1, d2, d3] }
  | _ => none }
def StateLastWrongFalsely : Prop := stateLastRow.holds Try.pinned (OpenSpec.ofChange stateLastWrong)

/-- 'clepsydralaw6.StateApart': WHATEVER THE INPUT: true; the input reads as it did. -/
def stateApartSpec : ChangeSpec := { name := "stateApart", fn := fun _ => fun
  | [d1, d2, d3] => { results := [.lit (.bool true)], args := [d1, d2, d3] }
  | _ => none }
def stateApartRow : OpenClaim := { program := "ytbhfokfdijnhhaa", sum := "477a1513e0dc577df38c83754222e684553a27621eacea6a52a9868ec2aeecdf", func := "clepsydra/clepsydralaw6.StateApart", spec := "stateApart", inPlace := ["slices.overlaps[clepsydra/api.Item]"], unfollowed := true, recurses := true, apart := false }
def StateApartSaid : Prop := stateApartRow.holds Try.pinned (OpenSpec.ofChange stateApartSpec)

/-- ITS FALSE NEIGHBOUR: 'it returns false'. Refute it at one input. -/
def stateApartWrong : ChangeSpec := { name := "stateApart", fn := fun _ => fun
  | [d1, d2, d3] => { results := [.lit (.bool false)], args := [d1, d2, d3] }
  | _ => none }
def StateApartWrongFalsely : Prop := stateApartRow.holds Try.pinned (OpenSpec.ofChange stateApartWrong)

/-- 'clepsydralaw6.StateTells': WHATEVER THE INPUT: true; the input reads as it did. -/
def stateTellsSpec : ChangeSpec := { name := "stateTells", fn := fun _ => fun
  | [d1, d2, d3] => { results := [.lit (.bool true)], args := [d1, d2, d3] }
  | _ => none }
def stateTellsRow : OpenClaim := { program := "ytbhfokfdijnhhaa", sum := "477a1513e0dc577df38c83754222e684553a27621eacea6a52a9868ec2aeecdf", func := "clepsydra/clepsydralaw6.StateTells", spec := "stateTells", inPlace := ["slices.overlaps[clepsydra/api.Item]"], unfollowed := true, recurses := true, apart := false }
def StateTellsSaid : Prop := stateTellsRow.holds Try.pinned (OpenSpec.ofChange stateTellsSpec)

/-- ITS FALSE NEIGHBOUR: 'it returns false'. Refute it at one input. -/
def stateTellsWrong : ChangeSpec := { name := "stateTells", fn := fun _ => fun
  | [d1, d2, d3] => { results := [.lit (.bool false)], args := [d1, d2, d3] }
  | _ => none }
def StateTellsWrongFalsely : Prop := stateTellsRow.holds Try.pinned (OpenSpec.ofChange stateTellsWrong)

/-- 'clepsydralaw6.StateParts': WHATEVER THE INPUT: true; the input reads as it did. -/
def statePartsSpec : ChangeSpec := { name := "stateParts", fn := fun _ => fun
  | [d1, d2] => { results := [.lit (.bool true)], args := [d1, d2] }
  | _ => none }
def statePartsRow : OpenClaim := { program := "ytbhfokfdijnhhaa", sum := "477a1513e0dc577df38c83754222e684553a27621eacea6a52a9868ec2aeecdf", func := "clepsydra/clepsydralaw6.StateParts", spec := "stateParts", inPlace := ["slices.overlaps[clepsydra/api.Item]"], unfollowed := true, recurses := true, apart := false }
def StatePartsSaid : Prop := statePartsRow.holds Try.pinned (OpenSpec.ofChange statePartsSpec)

/-- ITS FALSE NEIGHBOUR: 'it returns false'. Refute it at one input. -/
def statePartsWrong : ChangeSpec := { name := "stateParts", fn := fun _ => fun
  | [d1, d2] => { results := [.lit (.bool false)], args := [d1, d2] }
  | _ => none }
def StatePartsWrongFalsely : Prop := statePartsRow.holds Try.pinned (OpenSpec.ofChange statePartsWrong)

/-- 'clepsydralaw6.StateDeletes': WHATEVER THE INPUT: true; the input reads as it did. -/
def stateDeletesSpec : ChangeSpec := { name := "stateDeletes", fn := fun _ => fun
  | [d1, d2, d3] => { results := [.lit (.bool true)], args := [d1, d2, d3] }
  | _ => none }
def stateDeletesRow : OpenClaim := { program := "ytbhfokfdijnhhaa", sum := "477a1513e0dc577df38c83754222e684553a27621eacea6a52a9868ec2aeecdf", func := "clepsydra/clepsydralaw6.StateDeletes", spec := "stateDeletes", inPlace := ["slices.overlaps[clepsydra/api.Item]"], unfollowed := true, recurses := true, apart := false }
def StateDeletesSaid : Prop := stateDeletesRow.holds Try.pinned (OpenSpec.ofChange stateDeletesSpec)

/-- ITS FALSE NEIGHBOUR: 'it returns false'. Refute it at one input. -/
def stateDeletesWrong : ChangeSpec := { name := "stateDeletes", fn := fun _ => fun
  | [d1, d2, d3] => { results := [.lit (.bool false)], args := [d1, d2, d3] }
  | _ => none }
def StateDeletesWrongFalsely : Prop := stateDeletesRow.holds Try.pinned (OpenSpec.ofChange stateDeletesWrong)

/-- 'clepsydralaw6.StatePurged': WHATEVER THE INPUT: true; the input reads as it did. -/
def statePurgedSpec : ChangeSpec := { name := "statePurged", fn := fun _ => fun
  | [d1, d2, d3] => { results := [.lit (.bool true)], args := [d1, d2, d3] }
  | _ => none }
def statePurgedRow : OpenClaim := { program := "ytbhfokfdijnhhaa", sum := "477a1513e0dc577df38c83754222e684553a27621eacea6a52a9868ec2aeecdf", func := "clepsydra/clepsydralaw6.StatePurged", spec := "statePurged", inPlace := ["slices.overlaps[clepsydra/api.Item]"], unfollowed := true, recurses := true, apart := false }
def StatePurgedSaid : Prop := statePurgedRow.holds Try.pinned (OpenSpec.ofChange statePurgedSpec)

/-- ITS FALSE NEIGHBOUR: 'it returns false'. Refute it at one input. -/
def statePurgedWrong : ChangeSpec := { name := "statePurged", fn := fun _ => fun
  | [d1, d2, d3] => { results := [.lit (.bool false)], args := [d1, d2, d3] }
  | _ => none }
def StatePurgedWrongFalsely : Prop := statePurgedRow.holds Try.pinned (OpenSpec.ofChange statePurgedWrong)

/-- 'clepsydralaw6.StateAsks': WHATEVER THE INPUT: true; the input reads as it did. -/
def stateAsksSpec : ChangeSpec := { name := "stateAsks", fn := fun _ => fun
  | [d1, d2, d3, d4, d5] => { results := [.lit (.bool true)], args := [d1, d2, d3, d4, d5] }
  | _ => none }
def stateAsksRow : OpenClaim := { program := "ytbhfokfdijnhhaa", sum := "477a1513e0dc577df38c83754222e684553a27621eacea6a52a9868ec2aeecdf", func := "clepsydra/clepsydralaw6.StateAsks", spec := "stateAsks", inPlace := ["slices.overlaps[clepsydra/api.Item]"], unfollowed := true, recurses := true, apart := false }
def StateAsksSaid : Prop := stateAsksRow.holds Try.pinned (OpenSpec.ofChange stateAsksSpec)

/-- ITS FALSE NEIGHBOUR: 'it returns false'. Refute it at one input. -/
def stateAsksWrong : ChangeSpec := { name := "stateAsks", fn := fun _ => fun
  | [d1, d2, d3, d4, d5] => { results := [.lit (.bool false)], args := [d1, d2, d3, d4, d5] }
  | _ => none }
def StateAsksWrongFalsely : Prop := stateAsksRow.holds Try.pinned (OpenSpec.ofChange stateAsksWrong)

/- THE SECOND FORM. 'bulk': how many values and letters a reading holds, each counted each time it is reached (what is shared counts as often as it is met; a slice's spare places count too). A statement '..UptoSaid' is the law's where the arguments, and the package variables that the reading takes, are together of bulk at most 1048576: NARROWER than '..Said'. Prove '..Said' where nothing that the law and all that it calls make is longer than what came in: it says more and counts as full. Else prove '..UptoSaid'. A law counts once. -/
mutual
def uptoBulk {H : Type} : DataW H → Nat
  | .lit (.string bytes) => bytes.length + 1
  | .lit _ => 1
  | .nil => 1
  | .ptr d => uptoBulk d + 1
  | .slice elems spare => uptoBulkAll elems + uptoBulkAll spare + 1
  | .agg parts => uptoBulkAll parts + 1
  | .iface _ d => uptoBulk d + 1
  | .map entries => uptoBulkEntries entries + 1
  | .held _ => 1
def uptoBulkAll {H : Type} : List (DataW H) → Nat
  | [] => 0
  | d :: r => uptoBulk d + uptoBulkAll r
def uptoBulkEntries {H : Type} : List (Lit × DataW H) → Nat
  | [] => 0
  | x :: r => uptoBulkEntry x + uptoBulkEntries r
def uptoBulkEntry {H : Type} : Lit × DataW H → Nat
  | (.string bytes, d) => bytes.length + uptoBulk d + 1
  | (_, d) => uptoBulk d + 1
 end
def uptoSmall : (H : Type) → List (DataW H) → Bool := fun _ ds => decide (uptoBulkAll ds ≤ 1048576)
def OpenSpec.upto (s : _root_.Go.ChangeSpec) : _root_.Go.OpenSpec := { _root_.Go.OpenSpec.ofChange s with cond := some uptoSmall }

/-- 'clepsydralaw6.StateJoins', WHERE WHAT IT READS IS OF BULK AT MOST 1048576: true; the input reads as it did. -/
def stateJoinsUptoRow : OpenClaim := { program := "ytbhfokfdijnhhaa", sum := "477a1513e0dc577df38c83754222e684553a27621eacea6a52a9868ec2aeecdf", func := "clepsydra/clepsydralaw6.StateJoins", spec := "stateJoins", inPlace := ["slices.overlaps[clepsydra/api.Item]"], unfollowed := true, recurses := true, apart := false, narrowed := true }
def StateJoinsUptoSaid : Prop := stateJoinsUptoRow.holds Try.pinned (OpenSpec.upto stateJoinsSpec)

/-- 'clepsydralaw6.StateTurns', WHERE WHAT IT READS IS OF BULK AT MOST 1048576: true; the input reads as it did. -/
def stateTurnsUptoRow : OpenClaim := { program := "ytbhfokfdijnhhaa", sum := "477a1513e0dc577df38c83754222e684553a27621eacea6a52a9868ec2aeecdf", func := "clepsydra/clepsydralaw6.StateTurns", spec := "stateTurns", inPlace := ["slices.overlaps[clepsydra/api.Item]"], unfollowed := true, recurses := true, apart := false, narrowed := true }
def StateTurnsUptoSaid : Prop := stateTurnsUptoRow.holds Try.pinned (OpenSpec.upto stateTurnsSpec)

/-- 'clepsydralaw6.StateLast', WHERE WHAT IT READS IS OF BULK AT MOST 1048576: true; the input reads as it did. -/
def stateLastUptoRow : OpenClaim := { program := "ytbhfokfdijnhhaa", sum := "477a1513e0dc577df38c83754222e684553a27621eacea6a52a9868ec2aeecdf", func := "clepsydra/clepsydralaw6.StateLast", spec := "stateLast", inPlace := ["slices.overlaps[clepsydra/api.Item]"], unfollowed := true, recurses := true, apart := false, narrowed := true }
def StateLastUptoSaid : Prop := stateLastUptoRow.holds Try.pinned (OpenSpec.upto stateLastSpec)

/-- 'clepsydralaw6.StateApart', WHERE WHAT IT READS IS OF BULK AT MOST 1048576: true; the input reads as it did. -/
def stateApartUptoRow : OpenClaim := { program := "ytbhfokfdijnhhaa", sum := "477a1513e0dc577df38c83754222e684553a27621eacea6a52a9868ec2aeecdf", func := "clepsydra/clepsydralaw6.StateApart", spec := "stateApart", inPlace := ["slices.overlaps[clepsydra/api.Item]"], unfollowed := true, recurses := true, apart := false, narrowed := true }
def StateApartUptoSaid : Prop := stateApartUptoRow.holds Try.pinned (OpenSpec.upto stateApartSpec)

/-- 'clepsydralaw6.StateTells', WHERE WHAT IT READS IS OF BULK AT MOST 1048576: true; the input reads as it did. -/
def stateTellsUptoRow : OpenClaim := { program := "ytbhfokfdijnhhaa", sum := "477a1513e0dc577df38c83754222e684553a27621eacea6a52a9868ec2aeecdf", func := "clepsydra/clepsydralaw6.StateTells", spec := "stateTells", inPlace := ["slices.overlaps[clepsydra/api.Item]"], unfollowed := true, recurses := true, apart := false, narrowed := true }
def StateTellsUptoSaid : Prop := stateTellsUptoRow.holds Try.pinned (OpenSpec.upto stateTellsSpec)

/-- 'clepsydralaw6.StateParts', WHERE WHAT IT READS IS OF BULK AT MOST 1048576: true; the input reads as it did. -/
def statePartsUptoRow : OpenClaim := { program := "ytbhfokfdijnhhaa", sum := "477a1513e0dc577df38c83754222e684553a27621eacea6a52a9868ec2aeecdf", func := "clepsydra/clepsydralaw6.StateParts", spec := "stateParts", inPlace := ["slices.overlaps[clepsydra/api.Item]"], unfollowed := true, recurses := true, apart := false, narrowed := true }
def StatePartsUptoSaid : Prop := statePartsUptoRow.holds Try.pinned (OpenSpec.upto statePartsSpec)

/-- 'clepsydralaw6.StateDeletes', WHERE WHAT IT READS IS OF BULK AT MOST 1048576: true; the input reads as it did. -/
def stateDeletesUptoRow : OpenClaim := { program := "ytbhfokfdijnhhaa", sum := "477a1513e0dc577df38c83754222e684553a27621eacea6a52a9868ec2aeecdf", func := "clepsydra/clepsydralaw6.StateDeletes", spec := "stateDeletes", inPlace := ["slices.overlaps[clepsydra/api.Item]"], unfollowed := true, recurses := true, apart := false, narrowed := true }
def StateDeletesUptoSaid : Prop := stateDeletesUptoRow.holds Try.pinned (OpenSpec.upto stateDeletesSpec)

/-- 'clepsydralaw6.StatePurged', WHERE WHAT IT READS IS OF BULK AT MOST 1048576: true; the input reads as it did. -/
def statePurgedUptoRow : OpenClaim := { program := "ytbhfokfdijnhhaa", sum := "477a1513e0dc577df38c83754222e684553a27621eacea6a52a9868ec2aeecdf", func := "clepsydra/clepsydralaw6.StatePurged", spec := "statePurged", inPlace := ["slices.overlaps[clepsydra/api.Item]"], unfollowed := true, recurses := true, apart := false, narrowed := true }
def StatePurgedUptoSaid : Prop := statePurgedUptoRow.holds Try.pinned (OpenSpec.upto statePurgedSpec)

/-- 'clepsydralaw6.StateAsks', WHERE WHAT IT READS IS OF BULK AT MOST 1048576: true; the input reads as it did. -/
def stateAsksUptoRow : OpenClaim := { program := "ytbhfokfdijnhhaa", sum := "477a1513e0dc577df38c83754222e684553a27621eacea6a52a9868ec2aeecdf", func := "clepsydra/clepsydralaw6.StateAsks", spec := "stateAsks", inPlace := ["slices.overlaps[clepsydra/api.Item]"], unfollowed := true, recurses := true, apart := false, narrowed := true }
def StateAsksUptoSaid : Prop := stateAsksUptoRow.holds Try.pinned (OpenSpec.upto stateAsksSpec)

end Rows
end Go.Proofs.Ytbhfokfdijnhhaa
