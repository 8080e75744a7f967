/-
  No cell of these rows narrows 'for every input' (looked for: loops, veiled, ifaces, maps, wideKeys, modest, calm, conditions, laid).
  DERIVED. THE GIVEN ROWS OF THIS SEAT. 5 by the template 'for every input the law returns true; each argument reads behind the call as it read before'; 0 by the template 'total and deterministic' (their statements: YtebnifpclebliaaTotals.lean).
  GIVEN WITH THE SEED: the statements are not yours to turn. If you find one false, say at which input.
  Laid BY PROGRAM, IN A SANDBOX (cutbox-rows.mjs): the forced cells as the released guide's own fill.sh prints them over the translation e9c690777a2b8aaf… (all of the seat's roots in one cut). By AI agents, Wed Nov 11 2026. No macro, syntax, notation, axiom, sorry.
-/
import Derived.Test.YtebnifpclebliaaChecked
import GoSem.Claim
import GoSem.ClaimJoined
import GoSem.ClaimMapViews
import Derived.JoinedTies
import Derived.KernelRfl
namespace Go.Proofs.Ytebnifpclebliaa
/- THE CELL 'sum', in the pinned program and in every row, IS THE sha256 OF THE DUMP (.gsa) THAT YtebnifpclebliaaProg.lean LOADS. Nothing in Lean hashes anything: it is a label: what it is worth is what the hold of that sum in a sandbox is worth. -/
noncomputable def Try.pinned : Pinned := { name := "ytebnifpclebliaa", sum := "e9c690777a2b8aaf7c59c350ccadcc07881d4399212e2e537a4e2220d6122c5d", checked := Try.checked }
namespace Rows
def none {H : Type} : Left H := { results := [], args := [] }

/-- 'clepsydralaw27.AxiomEven': WHATEVER THE INPUT: true; the input reads as it did. -/
def axiomEvenSpec : ChangeSpec := { name := "axiomEven", fn := fun _ => fun
  | [d1, d2, d3] => { results := [.lit (.bool true)], args := [d1, d2, d3] }
  | _ => none }
def axiomEvenRow : OpenClaim := { program := "ytebnifpclebliaa", sum := "e9c690777a2b8aaf7c59c350ccadcc07881d4399212e2e537a4e2220d6122c5d", func := "clepsydra/clepsydralaw27.AxiomEven", spec := "axiomEven", inPlace := ["slices.overlaps[clepsydra/api.Item]"], unfollowed := true, recurses := true, apart := false }
def AxiomEvenSaid : Prop := axiomEvenRow.holds Try.pinned (OpenSpec.ofChange axiomEvenSpec)

/-- ITS FALSE NEIGHBOUR: 'it returns false'. Refute it at one input. -/
def axiomEvenWrong : ChangeSpec := { name := "axiomEven", fn := fun _ => fun
  | [d1, d2, d3] => { results := [.lit (.bool false)], args := [d1, d2, d3] }
  | _ => none }
def AxiomEvenWrongFalsely : Prop := axiomEvenRow.holds Try.pinned (OpenSpec.ofChange axiomEvenWrong)

/-- 'clepsydralaw27.AxiomTells': WHATEVER THE INPUT: true; the input reads as it did. -/
def axiomTellsSpec : ChangeSpec := { name := "axiomTells", fn := fun _ => fun
  | [d1, d2, d3, d4, d5, d6] => { results := [.lit (.bool true)], args := [d1, d2, d3, d4, d5, d6] }
  | _ => none }
def axiomTellsRow : OpenClaim := { program := "ytebnifpclebliaa", sum := "e9c690777a2b8aaf7c59c350ccadcc07881d4399212e2e537a4e2220d6122c5d", func := "clepsydra/clepsydralaw27.AxiomTells", spec := "axiomTells", inPlace := ["slices.overlaps[clepsydra/api.Item]"], unfollowed := true, recurses := true, apart := false }
def AxiomTellsSaid : Prop := axiomTellsRow.holds Try.pinned (OpenSpec.ofChange axiomTellsSpec)

/-- ITS FALSE NEIGHBOUR: 'it returns false'. Refute it at one input. -/
def axiomTellsWrong : ChangeSpec := { name := "axiomTells", fn := fun _ => fun
  | [d1, d2, d3, d4, d5, d6] => { results := [.lit (.bool false)], args := [d1, d2, d3, d4, d5, d6] }
  | _ => none }
def AxiomTellsWrongFalsely : Prop := axiomTellsRow.holds Try.pinned (OpenSpec.ofChange axiomTellsWrong)

/-- 'clepsydralaw27.AxiomWhole': WHATEVER THE INPUT: true; the input reads as it did. -/
def axiomWholeSpec : ChangeSpec := { name := "axiomWhole", fn := fun _ => fun
  | [d1, d2, d3, d4] => { results := [.lit (.bool true)], args := [d1, d2, d3, d4] }
  | _ => none }
def axiomWholeRow : OpenClaim := { program := "ytebnifpclebliaa", sum := "e9c690777a2b8aaf7c59c350ccadcc07881d4399212e2e537a4e2220d6122c5d", func := "clepsydra/clepsydralaw27.AxiomWhole", spec := "axiomWhole", inPlace := ["slices.overlaps[clepsydra/api.Item]"], unfollowed := true, recurses := true, apart := false }
def AxiomWholeSaid : Prop := axiomWholeRow.holds Try.pinned (OpenSpec.ofChange axiomWholeSpec)

/-- ITS FALSE NEIGHBOUR: 'it returns false'. Refute it at one input. -/
def axiomWholeWrong : ChangeSpec := { name := "axiomWhole", fn := fun _ => fun
  | [d1, d2, d3, d4] => { results := [.lit (.bool false)], args := [d1, d2, d3, d4] }
  | _ => none }
def AxiomWholeWrongFalsely : Prop := axiomWholeRow.holds Try.pinned (OpenSpec.ofChange axiomWholeWrong)

/-- 'clepsydralaw27.AxiomLost': WHATEVER THE INPUT: true; the input reads as it did. -/
def axiomLostSpec : ChangeSpec := { name := "axiomLost", fn := fun _ => fun
  | [d1, d2, d3] => { results := [.lit (.bool true)], args := [d1, d2, d3] }
  | _ => none }
def axiomLostRow : OpenClaim := { program := "ytebnifpclebliaa", sum := "e9c690777a2b8aaf7c59c350ccadcc07881d4399212e2e537a4e2220d6122c5d", func := "clepsydra/clepsydralaw27.AxiomLost", spec := "axiomLost", inPlace := ["slices.overlaps[clepsydra/api.Item]"], unfollowed := true, recurses := true, apart := false }
def AxiomLostSaid : Prop := axiomLostRow.holds Try.pinned (OpenSpec.ofChange axiomLostSpec)

/-- ITS FALSE NEIGHBOUR: 'it returns false'. Refute it at one input. -/
def axiomLostWrong : ChangeSpec := { name := "axiomLost", fn := fun _ => fun
  | [d1, d2, d3] => { results := [.lit (.bool false)], args := [d1, d2, d3] }
  | _ => none }
def AxiomLostWrongFalsely : Prop := axiomLostRow.holds Try.pinned (OpenSpec.ofChange axiomLostWrong)

/-- 'clepsydralaw27.AxiomParts': WHATEVER THE INPUT: true; the input reads as it did. -/
def axiomPartsSpec : ChangeSpec := { name := "axiomParts", fn := fun _ => fun
  | [d1, d2, d3] => { results := [.lit (.bool true)], args := [d1, d2, d3] }
  | _ => none }
def axiomPartsRow : OpenClaim := { program := "ytebnifpclebliaa", sum := "e9c690777a2b8aaf7c59c350ccadcc07881d4399212e2e537a4e2220d6122c5d", func := "clepsydra/clepsydralaw27.AxiomParts", spec := "axiomParts", inPlace := ["slices.overlaps[clepsydra/api.Item]"], unfollowed := true, recurses := true, apart := false }
def AxiomPartsSaid : Prop := axiomPartsRow.holds Try.pinned (OpenSpec.ofChange axiomPartsSpec)

/-- ITS FALSE NEIGHBOUR: 'it returns false'. Refute it at one input. -/
def axiomPartsWrong : ChangeSpec := { name := "axiomParts", fn := fun _ => fun
  | [d1, d2, d3] => { results := [.lit (.bool false)], args := [d1, d2, d3] }
  | _ => none }
def AxiomPartsWrongFalsely : Prop := axiomPartsRow.holds Try.pinned (OpenSpec.ofChange axiomPartsWrong)

/- THE SECOND FORM. 'bulk': how many values and letters a reading holds, each counted each time it is reached (what is shared counts as often as it is met; a slice's spare places count too). A statement '..UptoSaid' is the law's where the arguments, and the package variables that the reading takes, are together of bulk at most 1048576: NARROWER than '..Said'. Prove '..Said' where nothing that the law and all that it calls make is longer than what came in: it says more and counts as full. Else prove '..UptoSaid'. A law counts once. -/
mutual
def uptoBulk {H : Type} : DataW H → Nat
  | .lit (.string bytes) => bytes.length + 1
  | .lit _ => 1
  | .nil => 1
  | .ptr d => uptoBulk d + 1
  | .slice elems spare => uptoBulkAll elems + uptoBulkAll spare + 1
  | .agg parts => uptoBulkAll parts + 1
  | .iface _ d => uptoBulk d + 1
  | .map entries => uptoBulkEntries entries + 1
  | .held _ => 1
def uptoBulkAll {H : Type} : List (DataW H) → Nat
  | [] => 0
  | d :: r => uptoBulk d + uptoBulkAll r
def uptoBulkEntries {H : Type} : List (Lit × DataW H) → Nat
  | [] => 0
  | x :: r => uptoBulkEntry x + uptoBulkEntries r
def uptoBulkEntry {H : Type} : Lit × DataW H → Nat
  | (.string bytes, d) => bytes.length + uptoBulk d + 1
  | (_, d) => uptoBulk d + 1
 end
def uptoSmall : (H : Type) → List (DataW H) → Bool := fun _ ds => decide (uptoBulkAll ds ≤ 1048576)
def OpenSpec.upto (s : _root_.Go.ChangeSpec) : _root_.Go.OpenSpec := { _root_.Go.OpenSpec.ofChange s with cond := some uptoSmall }

/-- 'clepsydralaw27.AxiomEven', WHERE WHAT IT READS IS OF BULK AT MOST 1048576: true; the input reads as it did. -/
def axiomEvenUptoRow : OpenClaim := { program := "ytebnifpclebliaa", sum := "e9c690777a2b8aaf7c59c350ccadcc07881d4399212e2e537a4e2220d6122c5d", func := "clepsydra/clepsydralaw27.AxiomEven", spec := "axiomEven", inPlace := ["slices.overlaps[clepsydra/api.Item]"], unfollowed := true, recurses := true, apart := false, narrowed := true }
def AxiomEvenUptoSaid : Prop := axiomEvenUptoRow.holds Try.pinned (OpenSpec.upto axiomEvenSpec)

/-- 'clepsydralaw27.AxiomTells', WHERE WHAT IT READS IS OF BULK AT MOST 1048576: true; the input reads as it did. -/
def axiomTellsUptoRow : OpenClaim := { program := "ytebnifpclebliaa", sum := "e9c690777a2b8aaf7c59c350ccadcc07881d4399212e2e537a4e2220d6122c5d", func := "clepsydra/clepsydralaw27.AxiomTells", spec := "axiomTells", inPlace := ["slices.overlaps[clepsydra/api.Item]"], unfollowed := true, recurses := true, apart := false, narrowed := true }
def AxiomTellsUptoSaid : Prop := axiomTellsUptoRow.holds Try.pinned (OpenSpec.upto axiomTellsSpec)

/-- 'clepsydralaw27.AxiomWhole', WHERE WHAT IT READS IS OF BULK AT MOST 1048576: true; the input reads as it did. -/
def axiomWholeUptoRow : OpenClaim := { program := "ytebnifpclebliaa", sum := "e9c690777a2b8aaf7c59c350ccadcc07881d4399212e2e537a4e2220d6122c5d", func := "clepsydra/clepsydralaw27.AxiomWhole", spec := "axiomWhole", inPlace := ["slices.overlaps[clepsydra/api.Item]"], unfollowed := true, recurses := true, apart := false, narrowed := true }
def AxiomWholeUptoSaid : Prop := axiomWholeUptoRow.holds Try.pinned (OpenSpec.upto axiomWholeSpec)

/-- 'clepsydralaw27.AxiomLost', WHERE WHAT IT READS IS OF BULK AT MOST 1048576: true; the input reads as it did. -/
def axiomLostUptoRow : OpenClaim := { program := "ytebnifpclebliaa", sum := "e9c690777a2b8aaf7c59c350ccadcc07881d4399212e2e537a4e2220d6122c5d", func := "clepsydra/clepsydralaw27.AxiomLost", spec := "axiomLost", inPlace := ["slices.overlaps[clepsydra/api.Item]"], unfollowed := true, recurses := true, apart := false, narrowed := true }
def AxiomLostUptoSaid : Prop := axiomLostUptoRow.holds Try.pinned (OpenSpec.upto axiomLostSpec)

/-- 'clepsydralaw27.AxiomParts', WHERE WHAT IT READS IS OF BULK AT MOST 1048576: true; the input reads as it did. -/
def axiomPartsUptoRow : OpenClaim := { program := "ytebnifpclebliaa", sum := "e9c690777a2b8aaf7c59c350ccadcc07881d4399212e2e537a4e2220d6122c5d", func := "clepsydra/clepsydralaw27.AxiomParts", spec := "axiomParts", inPlace := ["slices.overlaps[clepsydra/api.Item]"], unfollowed := true, recurses := true, apart := false, narrowed := true }
def AxiomPartsUptoSaid : Prop := axiomPartsUptoRow.holds Try.pinned (OpenSpec.upto axiomPartsSpec)

end Rows
end Go.Proofs.Ytebnifpclebliaa
