/-
  No cell of these rows narrows 'for every input' (looked for: loops, veiled, ifaces, maps, wideKeys, modest, calm, conditions, laid).
  DERIVED. THE GIVEN ROWS OF THIS SEAT. 6 by the template 'for every input the law returns true; each argument reads behind the call as it read before'; 0 by the template 'total and deterministic' (their statements: YtfmckinlgaejeaaTotals.lean).
  GIVEN WITH THE SEED: the statements are not yours to turn. If you find one false, say at which input.
  Laid BY PROGRAM, IN A SANDBOX (cutbox-rows.mjs): the forced cells as the released guide's own fill.sh prints them over the translation b126521656fbbdec… (all of the seat's roots in one cut). By AI agents, Wed Nov 11 2026. No macro, syntax, notation, axiom, sorry.
-/
import Derived.Test.YtfmckinlgaejeaaChecked
import GoSem.Claim
import GoSem.ClaimJoined
import GoSem.ClaimMapViews
import Derived.JoinedTies
import Derived.KernelRfl
namespace Go.Proofs.Ytfmckinlgaejeaa
/- THE CELL 'sum', in the pinned program and in every row, IS THE sha256 OF THE DUMP (.gsa) THAT YtfmckinlgaejeaaProg.lean LOADS. Nothing in Lean hashes anything: it is a label: what it is worth is what the hold of that sum in a sandbox is worth. -/
noncomputable def Try.pinned : Pinned := { name := "ytfmckinlgaejeaa", sum := "b126521656fbbdec032bda6f31437cc12707f79a7e1e2bbfd71bc010217f77b6", checked := Try.checked }
namespace Rows
def none {H : Type} : Left H := { results := [], args := [] }

/-- 'clepsydralaw13.MergeOverlaps': WHATEVER THE INPUT: true; the input reads as it did. -/
def mergeOverlapsSpec : ChangeSpec := { name := "mergeOverlaps", fn := fun _ => fun
  | [d1, d2] => { results := [.lit (.bool true)], args := [d1, d2] }
  | _ => none }
def mergeOverlapsRow : OpenClaim := { program := "ytfmckinlgaejeaa", sum := "b126521656fbbdec032bda6f31437cc12707f79a7e1e2bbfd71bc010217f77b6", func := "clepsydra/clepsydralaw13.MergeOverlaps", spec := "mergeOverlaps", apart := false }
def MergeOverlapsSaid : Prop := mergeOverlapsRow.holds Try.pinned (OpenSpec.ofChange mergeOverlapsSpec)

/-- ITS FALSE NEIGHBOUR: 'it returns false'. Refute it at one input. -/
def mergeOverlapsWrong : ChangeSpec := { name := "mergeOverlaps", fn := fun _ => fun
  | [d1, d2] => { results := [.lit (.bool false)], args := [d1, d2] }
  | _ => none }
def MergeOverlapsWrongFalsely : Prop := mergeOverlapsRow.holds Try.pinned (OpenSpec.ofChange mergeOverlapsWrong)

/-- 'clepsydralaw13.MergeTwo': WHATEVER THE INPUT: true; the input reads as it did. -/
def mergeTwoSpec : ChangeSpec := { name := "mergeTwo", fn := fun _ => fun
  | [d] => { results := [.lit (.bool true)], args := [d] }
  | _ => none }
def mergeTwoRow : OpenClaim := { program := "ytfmckinlgaejeaa", sum := "b126521656fbbdec032bda6f31437cc12707f79a7e1e2bbfd71bc010217f77b6", func := "clepsydra/clepsydralaw13.MergeTwo", spec := "mergeTwo", unfollowed := true, recurses := true, apart := false }
def MergeTwoSaid : Prop := mergeTwoRow.holds Try.pinned (OpenSpec.ofChange mergeTwoSpec)

/-- ITS FALSE NEIGHBOUR: 'it returns false'. Refute it at one input. -/
def mergeTwoWrong : ChangeSpec := { name := "mergeTwo", fn := fun _ => fun
  | [d] => { results := [.lit (.bool false)], args := [d] }
  | _ => none }
def MergeTwoWrongFalsely : Prop := mergeTwoRow.holds Try.pinned (OpenSpec.ofChange mergeTwoWrong)

/-- 'clepsydralaw13.MergeHides': WHATEVER THE INPUT: true; the input reads as it did. -/
def mergeHidesSpec : ChangeSpec := { name := "mergeHides", fn := fun _ => fun
  | [d1, d2, d3] => { results := [.lit (.bool true)], args := [d1, d2, d3] }
  | _ => none }
def mergeHidesRow : OpenClaim := { program := "ytfmckinlgaejeaa", sum := "b126521656fbbdec032bda6f31437cc12707f79a7e1e2bbfd71bc010217f77b6", func := "clepsydra/clepsydralaw13.MergeHides", spec := "mergeHides", unfollowed := true, recurses := true, apart := false }
def MergeHidesSaid : Prop := mergeHidesRow.holds Try.pinned (OpenSpec.ofChange mergeHidesSpec)

/-- ITS FALSE NEIGHBOUR: 'it returns false'. Refute it at one input. -/
def mergeHidesWrong : ChangeSpec := { name := "mergeHides", fn := fun _ => fun
  | [d1, d2, d3] => { results := [.lit (.bool false)], args := [d1, d2, d3] }
  | _ => none }
def MergeHidesWrongFalsely : Prop := mergeHidesRow.holds Try.pinned (OpenSpec.ofChange mergeHidesWrong)

/-- 'clepsydralaw13.MergeIters': WHATEVER THE INPUT: true; the input reads as it did. -/
def mergeItersSpec : ChangeSpec := { name := "mergeIters", fn := fun _ => fun
  | [d1, d2, d3] => { results := [.lit (.bool true)], args := [d1, d2, d3] }
  | _ => none }
def mergeItersRow : OpenClaim := { program := "ytfmckinlgaejeaa", sum := "b126521656fbbdec032bda6f31437cc12707f79a7e1e2bbfd71bc010217f77b6", func := "clepsydra/clepsydralaw13.MergeIters", spec := "mergeIters", inPlace := ["sync/atomic.LoadUint32", "(*internal/sync.Mutex).Lock", "internal/race.Disable", "sync/atomic.CompareAndSwapInt32", "internal/race.Enable", "internal/race.Acquire", "(*internal/sync.Mutex).lockSlow", "internal/sync.runtime_canSpin", "internal/sync.runtime_doSpin", "internal/sync.throw", "internal/sync.runtime_nanotime", "internal/sync.runtime_SemacquireMutex", "sync/atomic.AddInt32", "(*internal/sync.Mutex).Unlock", "internal/race.ReleaseMerge", "(*internal/sync.Mutex).unlockSlow", "internal/sync.fatal", "internal/sync.runtime_Semrelease", "sync/atomic.StoreUint32"], unfollowed := true, recurses := true, apart := false }
def MergeItersSaid : Prop := mergeItersRow.holds Try.pinned (OpenSpec.ofChange mergeItersSpec)

/-- ITS FALSE NEIGHBOUR: 'it returns false'. Refute it at one input. -/
def mergeItersWrong : ChangeSpec := { name := "mergeIters", fn := fun _ => fun
  | [d1, d2, d3] => { results := [.lit (.bool false)], args := [d1, d2, d3] }
  | _ => none }
def MergeItersWrongFalsely : Prop := mergeItersRow.holds Try.pinned (OpenSpec.ofChange mergeItersWrong)

/-- 'clepsydralaw13.MergeRaw': WHATEVER THE INPUT: true; the input reads as it did. -/
def mergeRawSpec : ChangeSpec := { name := "mergeRaw", fn := fun _ => fun
  | [d1, d2, d3] => { results := [.lit (.bool true)], args := [d1, d2, d3] }
  | _ => none }
def mergeRawRow : OpenClaim := { program := "ytfmckinlgaejeaa", sum := "b126521656fbbdec032bda6f31437cc12707f79a7e1e2bbfd71bc010217f77b6", func := "clepsydra/clepsydralaw13.MergeRaw", spec := "mergeRaw", inPlace := ["sync/atomic.LoadUint32", "(*internal/sync.Mutex).Lock", "internal/race.Disable", "sync/atomic.CompareAndSwapInt32", "internal/race.Enable", "internal/race.Acquire", "(*internal/sync.Mutex).lockSlow", "internal/sync.runtime_canSpin", "internal/sync.runtime_doSpin", "internal/sync.throw", "internal/sync.runtime_nanotime", "internal/sync.runtime_SemacquireMutex", "sync/atomic.AddInt32", "(*internal/sync.Mutex).Unlock", "internal/race.ReleaseMerge", "(*internal/sync.Mutex).unlockSlow", "internal/sync.fatal", "internal/sync.runtime_Semrelease", "sync/atomic.StoreUint32"], unfollowed := true, recurses := true, apart := false }
def MergeRawSaid : Prop := mergeRawRow.holds Try.pinned (OpenSpec.ofChange mergeRawSpec)

/-- ITS FALSE NEIGHBOUR: 'it returns false'. Refute it at one input. -/
def mergeRawWrong : ChangeSpec := { name := "mergeRaw", fn := fun _ => fun
  | [d1, d2, d3] => { results := [.lit (.bool false)], args := [d1, d2, d3] }
  | _ => none }
def MergeRawWrongFalsely : Prop := mergeRawRow.holds Try.pinned (OpenSpec.ofChange mergeRawWrong)

/-- 'clepsydralaw13.MergeRows': WHATEVER THE INPUT: true; the input reads as it did. -/
def mergeRowsSpec : ChangeSpec := { name := "mergeRows", fn := fun _ => fun
  | [d1, d2] => { results := [.lit (.bool true)], args := [d1, d2] }
  | _ => none }
def mergeRowsRow : OpenClaim := { program := "ytfmckinlgaejeaa", sum := "b126521656fbbdec032bda6f31437cc12707f79a7e1e2bbfd71bc010217f77b6", func := "clepsydra/clepsydralaw13.MergeRows", spec := "mergeRows", inPlace := ["slices.overlaps[clepsydra/api.Item]"], unfollowed := true, recurses := true, apart := false }
def MergeRowsSaid : Prop := mergeRowsRow.holds Try.pinned (OpenSpec.ofChange mergeRowsSpec)

/-- ITS FALSE NEIGHBOUR: 'it returns false'. Refute it at one input. -/
def mergeRowsWrong : ChangeSpec := { name := "mergeRows", fn := fun _ => fun
  | [d1, d2] => { results := [.lit (.bool false)], args := [d1, d2] }
  | _ => none }
def MergeRowsWrongFalsely : Prop := mergeRowsRow.holds Try.pinned (OpenSpec.ofChange mergeRowsWrong)

/- THE SECOND FORM. 'bulk': how many values and letters a reading holds, each counted each time it is reached (what is shared counts as often as it is met; a slice's spare places count too). A statement '..UptoSaid' is the law's where the arguments, and the package variables that the reading takes, are together of bulk at most 1048576: NARROWER than '..Said'. Prove '..Said' where nothing that the law and all that it calls make is longer than what came in: it says more and counts as full. Else prove '..UptoSaid'. A law counts once. -/
mutual
def uptoBulk {H : Type} : DataW H → Nat
  | .lit (.string bytes) => bytes.length + 1
  | .lit _ => 1
  | .nil => 1
  | .ptr d => uptoBulk d + 1
  | .slice elems spare => uptoBulkAll elems + uptoBulkAll spare + 1
  | .agg parts => uptoBulkAll parts + 1
  | .iface _ d => uptoBulk d + 1
  | .map entries => uptoBulkEntries entries + 1
  | .held _ => 1
def uptoBulkAll {H : Type} : List (DataW H) → Nat
  | [] => 0
  | d :: r => uptoBulk d + uptoBulkAll r
def uptoBulkEntries {H : Type} : List (Lit × DataW H) → Nat
  | [] => 0
  | x :: r => uptoBulkEntry x + uptoBulkEntries r
def uptoBulkEntry {H : Type} : Lit × DataW H → Nat
  | (.string bytes, d) => bytes.length + uptoBulk d + 1
  | (_, d) => uptoBulk d + 1
 end
def uptoSmall : (H : Type) → List (DataW H) → Bool := fun _ ds => decide (uptoBulkAll ds ≤ 1048576)
def OpenSpec.upto (s : _root_.Go.ChangeSpec) : _root_.Go.OpenSpec := { _root_.Go.OpenSpec.ofChange s with cond := some uptoSmall }

/-- 'clepsydralaw13.MergeOverlaps', WHERE WHAT IT READS IS OF BULK AT MOST 1048576: true; the input reads as it did. -/
def mergeOverlapsUptoRow : OpenClaim := { program := "ytfmckinlgaejeaa", sum := "b126521656fbbdec032bda6f31437cc12707f79a7e1e2bbfd71bc010217f77b6", func := "clepsydra/clepsydralaw13.MergeOverlaps", spec := "mergeOverlaps", apart := false, narrowed := true }
def MergeOverlapsUptoSaid : Prop := mergeOverlapsUptoRow.holds Try.pinned (OpenSpec.upto mergeOverlapsSpec)

/-- 'clepsydralaw13.MergeTwo', WHERE WHAT IT READS IS OF BULK AT MOST 1048576: true; the input reads as it did. -/
def mergeTwoUptoRow : OpenClaim := { program := "ytfmckinlgaejeaa", sum := "b126521656fbbdec032bda6f31437cc12707f79a7e1e2bbfd71bc010217f77b6", func := "clepsydra/clepsydralaw13.MergeTwo", spec := "mergeTwo", unfollowed := true, recurses := true, apart := false, narrowed := true }
def MergeTwoUptoSaid : Prop := mergeTwoUptoRow.holds Try.pinned (OpenSpec.upto mergeTwoSpec)

/-- 'clepsydralaw13.MergeHides', WHERE WHAT IT READS IS OF BULK AT MOST 1048576: true; the input reads as it did. -/
def mergeHidesUptoRow : OpenClaim := { program := "ytfmckinlgaejeaa", sum := "b126521656fbbdec032bda6f31437cc12707f79a7e1e2bbfd71bc010217f77b6", func := "clepsydra/clepsydralaw13.MergeHides", spec := "mergeHides", unfollowed := true, recurses := true, apart := false, narrowed := true }
def MergeHidesUptoSaid : Prop := mergeHidesUptoRow.holds Try.pinned (OpenSpec.upto mergeHidesSpec)

/-- 'clepsydralaw13.MergeIters', WHERE WHAT IT READS IS OF BULK AT MOST 1048576: true; the input reads as it did. -/
def mergeItersUptoRow : OpenClaim := { program := "ytfmckinlgaejeaa", sum := "b126521656fbbdec032bda6f31437cc12707f79a7e1e2bbfd71bc010217f77b6", func := "clepsydra/clepsydralaw13.MergeIters", spec := "mergeIters", inPlace := ["sync/atomic.LoadUint32", "(*internal/sync.Mutex).Lock", "internal/race.Disable", "sync/atomic.CompareAndSwapInt32", "internal/race.Enable", "internal/race.Acquire", "(*internal/sync.Mutex).lockSlow", "internal/sync.runtime_canSpin", "internal/sync.runtime_doSpin", "internal/sync.throw", "internal/sync.runtime_nanotime", "internal/sync.runtime_SemacquireMutex", "sync/atomic.AddInt32", "(*internal/sync.Mutex).Unlock", "internal/race.ReleaseMerge", "(*internal/sync.Mutex).unlockSlow", "internal/sync.fatal", "internal/sync.runtime_Semrelease", "sync/atomic.StoreUint32"], unfollowed := true, recurses := true, apart := false, narrowed := true }
def MergeItersUptoSaid : Prop := mergeItersUptoRow.holds Try.pinned (OpenSpec.upto mergeItersSpec)

/-- 'clepsydralaw13.MergeRaw', WHERE WHAT IT READS IS OF BULK AT MOST 1048576: true; the input reads as it did. -/
def mergeRawUptoRow : OpenClaim := { program := "ytfmckinlgaejeaa", sum := "b126521656fbbdec032bda6f31437cc12707f79a7e1e2bbfd71bc010217f77b6", func := "clepsydra/clepsydralaw13.MergeRaw", spec := "mergeRaw", inPlace := ["sync/atomic.LoadUint32", "(*internal/sync.Mutex).Lock", "internal/race.Disable", "sync/atomic.CompareAndSwapInt32", "internal/race.Enable", "internal/race.Acquire", "(*internal/sync.Mutex).lockSlow", "internal/sync.runtime_canSpin", "internal/sync.runtime_doSpin", "internal/sync.throw", "internal/sync.runtime_nanotime", "internal/sync.runtime_SemacquireMutex", "sync/atomic.AddInt32", "(*internal/sync.Mutex).Unlock", "internal/race.ReleaseMerge", "(*internal/sync.Mutex).unlockSlow", "internal/sync.fatal", "internal/sync.runtime_Semrelease", "sync/atomic.StoreUint32"], unfollowed := true, recurses := true, apart := false, narrowed := true }
def MergeRawUptoSaid : Prop := mergeRawUptoRow.holds Try.pinned (OpenSpec.upto mergeRawSpec)

/-- 'clepsydralaw13.MergeRows', WHERE WHAT IT READS IS OF BULK AT MOST 1048576: true; the input reads as it did. -/
def mergeRowsUptoRow : OpenClaim := { program := "ytfmckinlgaejeaa", sum := "b126521656fbbdec032bda6f31437cc12707f79a7e1e2bbfd71bc010217f77b6", func := "clepsydra/clepsydralaw13.MergeRows", spec := "mergeRows", inPlace := ["slices.overlaps[clepsydra/api.Item]"], unfollowed := true, recurses := true, apart := false, narrowed := true }
def MergeRowsUptoSaid : Prop := mergeRowsUptoRow.holds Try.pinned (OpenSpec.upto mergeRowsSpec)

end Rows
end Go.Proofs.Ytfmckinlgaejeaa
