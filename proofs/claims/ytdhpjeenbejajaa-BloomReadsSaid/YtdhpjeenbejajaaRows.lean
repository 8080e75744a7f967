/-
  No cell of these rows narrows 'for every input' (looked for: loops, veiled, ifaces, maps, wideKeys, modest, calm, conditions, laid).
  DERIVED. THE GIVEN ROWS OF THIS SEAT. 5 by the template 'for every input the law returns true; each argument reads behind the call as it read before'; 0 by the template 'total and deterministic' (their statements: YtdhpjeenbejajaaTotals.lean).
  GIVEN WITH THE SEED: the statements are not yours to turn. If you find one false, say at which input.
  Laid BY PROGRAM, IN A SANDBOX (cutbox-rows.mjs): the forced cells as the released guide's own fill.sh prints them over the translation 90709fef3ce1b6fb… (all of the seat's roots in one cut). By AI agents, Wed Nov 11 2026. No macro, syntax, notation, axiom, sorry.
-/
import Derived.Test.YtdhpjeenbejajaaChecked
import GoSem.Claim
import GoSem.ClaimJoined
import GoSem.ClaimMapViews
import Derived.JoinedTies
import Derived.KernelRfl
namespace Go.Proofs.Ytdhpjeenbejajaa
/- THE CELL 'sum', in the pinned program and in every row, IS THE sha256 OF THE DUMP (.gsa) THAT YtdhpjeenbejajaaProg.lean LOADS. Nothing in Lean hashes anything: it is a label: what it is worth is what the hold of that sum in a sandbox is worth. -/
noncomputable def Try.pinned : Pinned := { name := "ytdhpjeenbejajaa", sum := "90709fef3ce1b6fb74260035c5625c32c48002625bc553f0048424aa3e742e71", checked := Try.checked }
namespace Rows
def none {H : Type} : Left H := { results := [], args := [] }

/-- 'clepsydralaw10.BloomGrows': WHATEVER THE INPUT: true; the input reads as it did. -/
def bloomGrowsSpec : ChangeSpec := { name := "bloomGrows", fn := fun _ => fun
  | [d] => { results := [.lit (.bool true)], args := [d] }
  | _ => none }
def bloomGrowsRow : OpenClaim := { program := "ytdhpjeenbejajaa", sum := "90709fef3ce1b6fb74260035c5625c32c48002625bc553f0048424aa3e742e71", func := "clepsydra/clepsydralaw10.BloomGrows", spec := "bloomGrows", unfollowed := true, recurses := true, apart := false }
def BloomGrowsSaid : Prop := bloomGrowsRow.holds Try.pinned (OpenSpec.ofChange bloomGrowsSpec)

/-- ITS FALSE NEIGHBOUR: 'it returns false'. Refute it at one input. -/
def bloomGrowsWrong : ChangeSpec := { name := "bloomGrows", fn := fun _ => fun
  | [d] => { results := [.lit (.bool false)], args := [d] }
  | _ => none }
def BloomGrowsWrongFalsely : Prop := bloomGrowsRow.holds Try.pinned (OpenSpec.ofChange bloomGrowsWrong)

/-- 'clepsydralaw10.BloomAnyway': WHATEVER THE INPUT: true; the input reads as it did. -/
def bloomAnywaySpec : ChangeSpec := { name := "bloomAnyway", fn := fun _ => fun
  | [d1, d2] => { results := [.lit (.bool true)], args := [d1, d2] }
  | _ => none }
def bloomAnywayRow : OpenClaim := { program := "ytdhpjeenbejajaa", sum := "90709fef3ce1b6fb74260035c5625c32c48002625bc553f0048424aa3e742e71", func := "clepsydra/clepsydralaw10.BloomAnyway", spec := "bloomAnyway", unfollowed := true, recurses := true, apart := false }
def BloomAnywaySaid : Prop := bloomAnywayRow.holds Try.pinned (OpenSpec.ofChange bloomAnywaySpec)

/-- ITS FALSE NEIGHBOUR: 'it returns false'. Refute it at one input. -/
def bloomAnywayWrong : ChangeSpec := { name := "bloomAnyway", fn := fun _ => fun
  | [d1, d2] => { results := [.lit (.bool false)], args := [d1, d2] }
  | _ => none }
def BloomAnywayWrongFalsely : Prop := bloomAnywayRow.holds Try.pinned (OpenSpec.ofChange bloomAnywayWrong)

/-- 'clepsydralaw10.BloomSizes': WHATEVER THE INPUT: true; the input reads as it did. -/
def bloomSizesSpec : ChangeSpec := { name := "bloomSizes", fn := fun _ => fun
  | [d1, d2] => { results := [.lit (.bool true)], args := [d1, d2] }
  | _ => none }
def bloomSizesRow : OpenClaim := { program := "ytdhpjeenbejajaa", sum := "90709fef3ce1b6fb74260035c5625c32c48002625bc553f0048424aa3e742e71", func := "clepsydra/clepsydralaw10.BloomSizes", spec := "bloomSizes", unfollowed := true, recurses := true, apart := false }
def BloomSizesSaid : Prop := bloomSizesRow.holds Try.pinned (OpenSpec.ofChange bloomSizesSpec)

/-- ITS FALSE NEIGHBOUR: 'it returns false'. Refute it at one input. -/
def bloomSizesWrong : ChangeSpec := { name := "bloomSizes", fn := fun _ => fun
  | [d1, d2] => { results := [.lit (.bool false)], args := [d1, d2] }
  | _ => none }
def BloomSizesWrongFalsely : Prop := bloomSizesRow.holds Try.pinned (OpenSpec.ofChange bloomSizesWrong)

/-- 'clepsydralaw10.BloomTells': WHATEVER THE INPUT: true; the input reads as it did. -/
def bloomTellsSpec : ChangeSpec := { name := "bloomTells", fn := fun _ => fun
  | [d1, d2, d3, d4] => { results := [.lit (.bool true)], args := [d1, d2, d3, d4] }
  | _ => none }
def bloomTellsRow : OpenClaim := { program := "ytdhpjeenbejajaa", sum := "90709fef3ce1b6fb74260035c5625c32c48002625bc553f0048424aa3e742e71", func := "clepsydra/clepsydralaw10.BloomTells", spec := "bloomTells", unfollowed := true, recurses := true, apart := false }
def BloomTellsSaid : Prop := bloomTellsRow.holds Try.pinned (OpenSpec.ofChange bloomTellsSpec)

/-- ITS FALSE NEIGHBOUR: 'it returns false'. Refute it at one input. -/
def bloomTellsWrong : ChangeSpec := { name := "bloomTells", fn := fun _ => fun
  | [d1, d2, d3, d4] => { results := [.lit (.bool false)], args := [d1, d2, d3, d4] }
  | _ => none }
def BloomTellsWrongFalsely : Prop := bloomTellsRow.holds Try.pinned (OpenSpec.ofChange bloomTellsWrong)

/-- 'clepsydralaw10.BloomReads': WHATEVER THE INPUT: true; the input reads as it did. -/
def bloomReadsSpec : ChangeSpec := { name := "bloomReads", fn := fun _ => fun
  | [d1, d2, d3, d4, d5, d6] => { results := [.lit (.bool true)], args := [d1, d2, d3, d4, d5, d6] }
  | _ => none }
def bloomReadsRow : OpenClaim := { program := "ytdhpjeenbejajaa", sum := "90709fef3ce1b6fb74260035c5625c32c48002625bc553f0048424aa3e742e71", func := "clepsydra/clepsydralaw10.BloomReads", spec := "bloomReads", unfollowed := true, recurses := true, apart := false }
def BloomReadsSaid : Prop := bloomReadsRow.holds Try.pinned (OpenSpec.ofChange bloomReadsSpec)

/-- ITS FALSE NEIGHBOUR: 'it returns false'. Refute it at one input. -/
def bloomReadsWrong : ChangeSpec := { name := "bloomReads", fn := fun _ => fun
  | [d1, d2, d3, d4, d5, d6] => { results := [.lit (.bool false)], args := [d1, d2, d3, d4, d5, d6] }
  | _ => none }
def BloomReadsWrongFalsely : Prop := bloomReadsRow.holds Try.pinned (OpenSpec.ofChange bloomReadsWrong)

/- THE SECOND FORM. 'bulk': how many values and letters a reading holds, each counted each time it is reached (what is shared counts as often as it is met; a slice's spare places count too). A statement '..UptoSaid' is the law's where the arguments, and the package variables that the reading takes, are together of bulk at most 1048576: NARROWER than '..Said'. Prove '..Said' where nothing that the law and all that it calls make is longer than what came in: it says more and counts as full. Else prove '..UptoSaid'. A law counts once. -/
mutual
def uptoBulk {H : Type} : DataW H → Nat
  | .lit (.string bytes) => bytes.length + 1
  | .lit _ => 1
  | .nil => 1
  | .ptr d => uptoBulk d + 1
  | .slice elems spare => uptoBulkAll elems + uptoBulkAll spare + 1
  | .agg parts => uptoBulkAll parts + 1
  | .iface _ d => uptoBulk d + 1
  | .map entries => uptoBulkEntries entries + 1
  | .held _ => 1
def uptoBulkAll {H : Type} : List (DataW H) → Nat
  | [] => 0
  | d :: r => uptoBulk d + uptoBulkAll r
def uptoBulkEntries {H : Type} : List (Lit × DataW H) → Nat
  | [] => 0
  | x :: r => uptoBulkEntry x + uptoBulkEntries r
def uptoBulkEntry {H : Type} : Lit × DataW H → Nat
  | (.string bytes, d) => bytes.length + uptoBulk d + 1
  | (_, d) => uptoBulk d + 1
 end
def uptoSmall : (H : Type) → List (DataW H) → Bool := fun _ ds => decide (uptoBulkAll ds ≤ 1048576)
def OpenSpec.upto (s : _root_.Go.ChangeSpec) : _root_.Go.OpenSpec := { _root_.Go.OpenSpec.ofChange s with cond := some uptoSmall }

/-- 'clepsydralaw10.BloomGrows', WHERE WHAT IT READS IS OF BULK AT MOST 1048576: true; the input reads as it did. -/
def bloomGrowsUptoRow : OpenClaim := { program := "ytdhpjeenbejajaa", sum := "90709fef3ce1b6fb74260035c5625c32c48002625bc553f0048424aa3e742e71", func := "clepsydra/clepsydralaw10.BloomGrows", spec := "bloomGrows", unfollowed := true, recurses := true, apart := false, narrowed := true }
def BloomGrowsUptoSaid : Prop := bloomGrowsUptoRow.holds Try.pinned (OpenSpec.upto bloomGrowsSpec)

/-- 'clepsydralaw10.BloomAnyway', WHERE WHAT IT READS IS OF BULK AT MOST 1048576: true; the input reads as it did. -/
def bloomAnywayUptoRow : OpenClaim := { program := "ytdhpjeenbejajaa", sum := "90709fef3ce1b6fb74260035c5625c32c48002625bc553f0048424aa3e742e71", func := "clepsydra/clepsydralaw10.BloomAnyway", spec := "bloomAnyway", unfollowed := true, recurses := true, apart := false, narrowed := true }
def BloomAnywayUptoSaid : Prop := bloomAnywayUptoRow.holds Try.pinned (OpenSpec.upto bloomAnywaySpec)

/-- 'clepsydralaw10.BloomSizes', WHERE WHAT IT READS IS OF BULK AT MOST 1048576: true; the input reads as it did. -/
def bloomSizesUptoRow : OpenClaim := { program := "ytdhpjeenbejajaa", sum := "90709fef3ce1b6fb74260035c5625c32c48002625bc553f0048424aa3e742e71", func := "clepsydra/clepsydralaw10.BloomSizes", spec := "bloomSizes", unfollowed := true, recurses := true, apart := false, narrowed := true }
def BloomSizesUptoSaid : Prop := bloomSizesUptoRow.holds Try.pinned (OpenSpec.upto bloomSizesSpec)

/-- 'clepsydralaw10.BloomTells', WHERE WHAT IT READS IS OF BULK AT MOST 1048576: true; the input reads as it did. -/
def bloomTellsUptoRow : OpenClaim := { program := "ytdhpjeenbejajaa", sum := "90709fef3ce1b6fb74260035c5625c32c48002625bc553f0048424aa3e742e71", func := "clepsydra/clepsydralaw10.BloomTells", spec := "bloomTells", unfollowed := true, recurses := true, apart := false, narrowed := true }
def BloomTellsUptoSaid : Prop := bloomTellsUptoRow.holds Try.pinned (OpenSpec.upto bloomTellsSpec)

/-- 'clepsydralaw10.BloomReads', WHERE WHAT IT READS IS OF BULK AT MOST 1048576: true; the input reads as it did. -/
def bloomReadsUptoRow : OpenClaim := { program := "ytdhpjeenbejajaa", sum := "90709fef3ce1b6fb74260035c5625c32c48002625bc553f0048424aa3e742e71", func := "clepsydra/clepsydralaw10.BloomReads", spec := "bloomReads", unfollowed := true, recurses := true, apart := false, narrowed := true }
def BloomReadsUptoSaid : Prop := bloomReadsUptoRow.holds Try.pinned (OpenSpec.upto bloomReadsSpec)

end Rows
end Go.Proofs.Ytdhpjeenbejajaa
