/-
  No cell of these rows narrows 'for every input' (looked for: loops, veiled, ifaces, maps, wideKeys, modest, calm, conditions, laid).
  DERIVED. THE GIVEN ROWS OF THIS SEAT. 4 by the template 'for every input the law returns true; each argument reads behind the call as it read before'; 0 by the template 'total and deterministic' (their statements: YtihhepojhoaacaaTotals.lean).
  GIVEN WITH THE SEED: the statements are not yours to turn. If you find one false, say at which input.
  Laid BY PROGRAM, IN A SANDBOX (cutbox-rows.mjs): the forced cells as the released guide's own fill.sh prints them over the translation 3b15ffca8dbd9ccc… (all of the seat's roots in one cut). By AI agents, Wed Nov 11 2026. No macro, syntax, notation, axiom, sorry.
-/
import Derived.Test.YtihhepojhoaacaaChecked
import GoSem.Claim
import GoSem.ClaimJoined
import GoSem.ClaimMapViews
import Derived.JoinedTies
import Derived.KernelRfl
namespace Go.Proofs.Ytihhepojhoaacaa
/- THE CELL 'sum', in the pinned program and in every row, IS THE sha256 OF THE DUMP (.gsa) THAT YtihhepojhoaacaaProg.lean LOADS. Nothing in Lean hashes anything: it is a label: what it is worth is what the hold of that sum in a sandbox is worth. -/
noncomputable def Try.pinned : Pinned := { name := "ytihhepojhoaacaa", sum := "3b15ffca8dbd9ccc2f73f4ddfe19ac2122626290df74f9d189aa7692b3eec601", checked := Try.checked }
namespace Rows
def none {H : Type} : Left H := { results := [], args := [] }

/-- 'clepsydralaw21.NetOrders': WHATEVER THE INPUT: true; the input reads as it did. -/
def netOrdersSpec : ChangeSpec := { name := "netOrders", fn := fun _ => fun
  | [d1, d2] => { results := [.lit (.bool true)], args := [d1, d2] }
  | _ => none }
def netOrdersRow : OpenClaim := { program := "ytihhepojhoaacaa", sum := "3b15ffca8dbd9ccc2f73f4ddfe19ac2122626290df74f9d189aa7692b3eec601", func := "clepsydra/clepsydralaw21.NetOrders", spec := "netOrders", inPlace := ["sync/atomic.AddInt64", "sync/atomic.LoadInt64"], unfollowed := true, recurses := true, apart := false }
def NetOrdersSaid : Prop := netOrdersRow.holds Try.pinned (OpenSpec.ofChange netOrdersSpec)

/-- ITS FALSE NEIGHBOUR: 'it returns false'. Refute it at one input. -/
def netOrdersWrong : ChangeSpec := { name := "netOrders", fn := fun _ => fun
  | [d1, d2] => { results := [.lit (.bool false)], args := [d1, d2] }
  | _ => none }
def NetOrdersWrongFalsely : Prop := netOrdersRow.holds Try.pinned (OpenSpec.ofChange netOrdersWrong)

/-- 'clepsydralaw21.NetRefuses': WHATEVER THE INPUT: true; the input reads as it did. -/
def netRefusesSpec : ChangeSpec := { name := "netRefuses", fn := fun _ => fun
  | [d1, d2] => { results := [.lit (.bool true)], args := [d1, d2] }
  | _ => none }
def netRefusesRow : OpenClaim := { program := "ytihhepojhoaacaa", sum := "3b15ffca8dbd9ccc2f73f4ddfe19ac2122626290df74f9d189aa7692b3eec601", func := "clepsydra/clepsydralaw21.NetRefuses", spec := "netRefuses", inPlace := ["sync/atomic.AddInt64", "sync/atomic.LoadInt64"], unfollowed := true, recurses := true, apart := false }
def NetRefusesSaid : Prop := netRefusesRow.holds Try.pinned (OpenSpec.ofChange netRefusesSpec)

/-- ITS FALSE NEIGHBOUR: 'it returns false'. Refute it at one input. -/
def netRefusesWrong : ChangeSpec := { name := "netRefuses", fn := fun _ => fun
  | [d1, d2] => { results := [.lit (.bool false)], args := [d1, d2] }
  | _ => none }
def NetRefusesWrongFalsely : Prop := netRefusesRow.holds Try.pinned (OpenSpec.ofChange netRefusesWrong)

/-- 'clepsydralaw21.NetCounts': WHATEVER THE INPUT: true; the input reads as it did. -/
def netCountsSpec : ChangeSpec := { name := "netCounts", fn := fun _ => fun
  | [d1, d2] => { results := [.lit (.bool true)], args := [d1, d2] }
  | _ => none }
def netCountsRow : OpenClaim := { program := "ytihhepojhoaacaa", sum := "3b15ffca8dbd9ccc2f73f4ddfe19ac2122626290df74f9d189aa7692b3eec601", func := "clepsydra/clepsydralaw21.NetCounts", spec := "netCounts", inPlace := ["sync/atomic.AddInt64", "sync/atomic.LoadInt64"], unfollowed := true, recurses := true, apart := false }
def NetCountsSaid : Prop := netCountsRow.holds Try.pinned (OpenSpec.ofChange netCountsSpec)

/-- ITS FALSE NEIGHBOUR: 'it returns false'. Refute it at one input. -/
def netCountsWrong : ChangeSpec := { name := "netCounts", fn := fun _ => fun
  | [d1, d2] => { results := [.lit (.bool false)], args := [d1, d2] }
  | _ => none }
def NetCountsWrongFalsely : Prop := netCountsRow.holds Try.pinned (OpenSpec.ofChange netCountsWrong)

/-- 'clepsydralaw21.NetPlays': WHATEVER THE INPUT: true; the input reads as it did. -/
def netPlaysSpec : ChangeSpec := { name := "netPlays", fn := fun _ => fun
  | [d1, d2] => { results := [.lit (.bool true)], args := [d1, d2] }
  | _ => none }
def netPlaysRow : OpenClaim := { program := "ytihhepojhoaacaa", sum := "3b15ffca8dbd9ccc2f73f4ddfe19ac2122626290df74f9d189aa7692b3eec601", func := "clepsydra/clepsydralaw21.NetPlays", spec := "netPlays", inPlace := ["sync/atomic.AddInt64", "sync/atomic.LoadInt64"], unfollowed := true, recurses := true, apart := false }
def NetPlaysSaid : Prop := netPlaysRow.holds Try.pinned (OpenSpec.ofChange netPlaysSpec)

/-- ITS FALSE NEIGHBOUR: 'it returns false'. Refute it at one input. -/
def netPlaysWrong : ChangeSpec := { name := "netPlays", fn := fun _ => fun
  | [d1, d2] => { results := [.lit (.bool false)], args := [d1, d2] }
  | _ => none }
def NetPlaysWrongFalsely : Prop := netPlaysRow.holds Try.pinned (OpenSpec.ofChange netPlaysWrong)

/- THE SECOND FORM. 'bulk': how many values and letters a reading holds, each counted each time it is reached (what is shared counts as often as it is met; a slice's spare places count too). A statement '..UptoSaid' is the law's where the arguments, and the package variables that the reading takes, are together of bulk at most 1048576: NARROWER than '..Said'. Prove '..Said' where nothing that the law and all that it calls make is longer than what came in: it says more and counts as full. Else prove '..UptoSaid'. A law counts once. -/
mutual
def uptoBulk {H : Type} : DataW H → Nat
  | .lit (.string bytes) => bytes.length + 1
  | .lit _ => 1
  | .nil => 1
  | .ptr d => uptoBulk d + 1
  | .slice elems spare => uptoBulkAll elems + uptoBulkAll spare + 1
  | .agg parts => uptoBulkAll parts + 1
  | .iface _ d => uptoBulk d + 1
  | .map entries => uptoBulkEntries entries + 1
  | .held _ => 1
def uptoBulkAll {H : Type} : List (DataW H) → Nat
  | [] => 0
  | d :: r => uptoBulk d + uptoBulkAll r
def uptoBulkEntries {H : Type} : List (Lit × DataW H) → Nat
  | [] => 0
  | x :: r => uptoBulkEntry x + uptoBulkEntries r
def uptoBulkEntry {H : Type} : Lit × DataW H → Nat
  | (.string bytes, d) => bytes.length + uptoBulk d + 1
  | (_, d) => uptoBulk d + 1
 end
def uptoSmall : (H : Type) → List (DataW H) → Bool := fun _ ds => decide (uptoBulkAll ds ≤ 1048576)
def OpenSpec.upto (s : _root_.Go.ChangeSpec) : _root_.Go.OpenSpec := { _root_.Go.OpenSpec.ofChange s with cond := some uptoSmall }

/-- 'clepsydralaw21.NetOrders', WHERE WHAT IT READS IS OF BULK AT MOST 1048576: true; the input reads as it did. -/
def netOrdersUptoRow : OpenClaim := { program := "ytihhepojhoaacaa", sum := "3b15ffca8dbd9ccc2f73f4ddfe19ac2122626290df74f9d189aa7692b3eec601", func := "clepsydra/clepsydralaw21.NetOrders", spec := "netOrders", inPlace := ["sync/atomic.AddInt64", "sync/atomic.LoadInt64"], unfollowed := true, recurses := true, apart := false, narrowed := true }
def NetOrdersUptoSaid : Prop := netOrdersUptoRow.holds Try.pinned (OpenSpec.upto netOrdersSpec)

/-- 'clepsydralaw21.NetRefuses', WHERE WHAT IT READS IS OF BULK AT MOST 1048576: true; the input reads as it did. -/
def netRefusesUptoRow : OpenClaim := { program := "ytihhepojhoaacaa", sum := "3b15ffca8dbd9ccc2f73f4ddfe19ac2122626290df74f9d189aa7692b3eec601", func := "clepsydra/clepsydralaw21.NetRefuses", spec := "netRefuses", inPlace := ["sync/atomic.AddInt64", "sync/atomic.LoadInt64"], unfollowed := true, recurses := true, apart := false, narrowed := true }
def NetRefusesUptoSaid : Prop := netRefusesUptoRow.holds Try.pinned (OpenSpec.upto netRefusesSpec)

/-- 'clepsydralaw21.NetCounts', WHERE WHAT IT READS IS OF BULK AT MOST 1048576: true; the input reads as it did. -/
def netCountsUptoRow : OpenClaim := { program := "ytihhepojhoaacaa", sum := "3b15ffca8dbd9ccc2f73f4ddfe19ac2122626290df74f9d189aa7692b3eec601", func := "clepsydra/clepsydralaw21.NetCounts", spec := "netCounts", inPlace := ["sync/atomic.AddInt64", "sync/atomic.LoadInt64"], unfollowed := true, recurses := true, apart := false, narrowed := true }
def NetCountsUptoSaid : Prop := netCountsUptoRow.holds Try.pinned (OpenSpec.upto netCountsSpec)

/-- 'clepsydralaw21.NetPlays', WHERE WHAT IT READS IS OF BULK AT MOST 1048576: true; the input reads as it did. -/
def netPlaysUptoRow : OpenClaim := { program := "ytihhepojhoaacaa", sum := "3b15ffca8dbd9ccc2f73f4ddfe19ac2122626290df74f9d189aa7692b3eec601", func := "clepsydra/clepsydralaw21.NetPlays", spec := "netPlays", inPlace := ["sync/atomic.AddInt64", "sync/atomic.LoadInt64"], unfollowed := true, recurses := true, apart := false, narrowed := true }
def NetPlaysUptoSaid : Prop := netPlaysUptoRow.holds Try.pinned (OpenSpec.upto netPlaysSpec)

end Rows
end Go.Proofs.Ytihhepojhoaacaa
