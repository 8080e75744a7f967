/-
  No cell of these rows narrows 'for every input' (looked for: loops, veiled, ifaces, maps, wideKeys, modest, calm, conditions, laid).
  DERIVED. THE GIVEN ROWS OF THIS SEAT. 4 by the template 'for every input the law returns true; each argument reads behind the call as it read before'; 0 by the template 'total and deterministic' (their statements: YtlabpgdimhbocaaTotals.lean).
  GIVEN WITH THE SEED: the statements are not yours to turn. If you find one false, say at which input.
  Laid BY PROGRAM, IN A SANDBOX (cutbox-rows.mjs): the forced cells as the released guide's own fill.sh prints them over the translation deaaac2a6a808777… (all of the seat's roots in one cut). By AI agents, Wed Nov 11 2026. No macro, syntax, notation, axiom, sorry.
-/
import Derived.Test.YtlabpgdimhbocaaChecked
import GoSem.Claim
import GoSem.ClaimJoined
import GoSem.ClaimMapViews
import Derived.JoinedTies
import Derived.KernelRfl
namespace Go.Proofs.Ytlabpgdimhbocaa
/- THE CELL 'sum', in the pinned program and in every row, IS THE sha256 OF THE DUMP (.gsa) THAT YtlabpgdimhbocaaProg.lean LOADS. Nothing in Lean hashes anything: it is a label: what it is worth is what the hold of that sum in a sandbox is worth. -/
noncomputable def Try.pinned : Pinned := { name := "ytlabpgdimhbocaa", sum := "deaaac2a6a80877718d851e43bc98ede2734ccfe8b1e19030ef1b303d0113583", checked := Try.checked }
namespace Rows
def none {H : Type} : Left H := { results := [], args := [] }

/-- 'clepsydralaw24.CoordOld': WHATEVER THE INPUT: true; the input reads as it did. -/
def coordOldSpec : ChangeSpec := { name := "coordOld", fn := fun _ => fun
  | [d1, d2, d3, d4] => { results := [.lit (.bool true)], args := [d1, d2, d3, d4] }
  | _ => none }
def coordOldRow : OpenClaim := { program := "ytlabpgdimhbocaa", sum := "deaaac2a6a80877718d851e43bc98ede2734ccfe8b1e19030ef1b303d0113583", func := "clepsydra/clepsydralaw24.CoordOld", spec := "coordOld", inPlace := ["slices.overlaps[clepsydra/api.Item]", "sync/atomic.LoadUint32", "(*internal/sync.Mutex).Lock", "internal/race.Disable", "sync/atomic.CompareAndSwapInt32", "internal/race.Enable", "internal/race.Acquire", "(*internal/sync.Mutex).lockSlow", "internal/sync.runtime_canSpin", "internal/sync.runtime_doSpin", "internal/sync.throw", "internal/sync.runtime_nanotime", "internal/sync.runtime_SemacquireMutex", "sync/atomic.AddInt32", "(*internal/sync.Mutex).Unlock", "internal/race.ReleaseMerge", "(*internal/sync.Mutex).unlockSlow", "internal/sync.fatal", "internal/sync.runtime_Semrelease", "sync/atomic.StoreUint32"], unfollowed := true, recurses := true, apart := false }
def CoordOldSaid : Prop := coordOldRow.holds Try.pinned (OpenSpec.ofChange coordOldSpec)

/-- ITS FALSE NEIGHBOUR: 'it returns false'. Refute it at one input. -/
def coordOldWrong : ChangeSpec := { name := "coordOld", fn := fun _ => fun
  | [d1, d2, d3, d4] => { results := [.lit (.bool false)], args := [d1, d2, d3, d4] }
  | _ => none }
def CoordOldWrongFalsely : Prop := coordOldRow.holds Try.pinned (OpenSpec.ofChange coordOldWrong)

/-- 'clepsydralaw24.CoordTurns': WHATEVER THE INPUT: true; the input reads as it did. -/
def coordTurnsSpec : ChangeSpec := { name := "coordTurns", fn := fun _ => fun
  | [d1, d2, d3] => { results := [.lit (.bool true)], args := [d1, d2, d3] }
  | _ => none }
def coordTurnsRow : OpenClaim := { program := "ytlabpgdimhbocaa", sum := "deaaac2a6a80877718d851e43bc98ede2734ccfe8b1e19030ef1b303d0113583", func := "clepsydra/clepsydralaw24.CoordTurns", spec := "coordTurns", inPlace := ["slices.overlaps[clepsydra/api.Item]", "sync/atomic.LoadUint32", "(*internal/sync.Mutex).Lock", "internal/race.Disable", "sync/atomic.CompareAndSwapInt32", "internal/race.Enable", "internal/race.Acquire", "(*internal/sync.Mutex).lockSlow", "internal/sync.runtime_canSpin", "internal/sync.runtime_doSpin", "internal/sync.throw", "internal/sync.runtime_nanotime", "internal/sync.runtime_SemacquireMutex", "sync/atomic.AddInt32", "(*internal/sync.Mutex).Unlock", "internal/race.ReleaseMerge", "(*internal/sync.Mutex).unlockSlow", "internal/sync.fatal", "internal/sync.runtime_Semrelease", "sync/atomic.StoreUint32"], unfollowed := true, recurses := true, apart := false }
def CoordTurnsSaid : Prop := coordTurnsRow.holds Try.pinned (OpenSpec.ofChange coordTurnsSpec)

/-- ITS FALSE NEIGHBOUR: 'it returns false'. Refute it at one input. -/
def coordTurnsWrong : ChangeSpec := { name := "coordTurns", fn := fun _ => fun
  | [d1, d2, d3] => { results := [.lit (.bool false)], args := [d1, d2, d3] }
  | _ => none }
def CoordTurnsWrongFalsely : Prop := coordTurnsRow.holds Try.pinned (OpenSpec.ofChange coordTurnsWrong)

/-- 'clepsydralaw24.CoordReads': WHATEVER THE INPUT: true; the input reads as it did. -/
def coordReadsSpec : ChangeSpec := { name := "coordReads", fn := fun _ => fun
  | [d1, d2, d3, d4, d5, d6] => { results := [.lit (.bool true)], args := [d1, d2, d3, d4, d5, d6] }
  | _ => none }
def coordReadsRow : OpenClaim := { program := "ytlabpgdimhbocaa", sum := "deaaac2a6a80877718d851e43bc98ede2734ccfe8b1e19030ef1b303d0113583", func := "clepsydra/clepsydralaw24.CoordReads", spec := "coordReads", inPlace := ["slices.overlaps[clepsydra/api.Item]", "sync/atomic.LoadUint32", "(*internal/sync.Mutex).Lock", "internal/race.Disable", "sync/atomic.CompareAndSwapInt32", "internal/race.Enable", "internal/race.Acquire", "(*internal/sync.Mutex).lockSlow", "internal/sync.runtime_canSpin", "internal/sync.runtime_doSpin", "internal/sync.throw", "internal/sync.runtime_nanotime", "internal/sync.runtime_SemacquireMutex", "sync/atomic.AddInt32", "(*internal/sync.Mutex).Unlock", "internal/race.ReleaseMerge", "(*internal/sync.Mutex).unlockSlow", "internal/sync.fatal", "internal/sync.runtime_Semrelease", "sync/atomic.StoreUint32"], unfollowed := true, recurses := true, apart := false }
def CoordReadsSaid : Prop := coordReadsRow.holds Try.pinned (OpenSpec.ofChange coordReadsSpec)

/-- ITS FALSE NEIGHBOUR: 'it returns false'. Refute it at one input. -/
def coordReadsWrong : ChangeSpec := { name := "coordReads", fn := fun _ => fun
  | [d1, d2, d3, d4, d5, d6] => { results := [.lit (.bool false)], args := [d1, d2, d3, d4, d5, d6] }
  | _ => none }
def CoordReadsWrongFalsely : Prop := coordReadsRow.holds Try.pinned (OpenSpec.ofChange coordReadsWrong)

/-- 'clepsydralaw24.CoordLate': WHATEVER THE INPUT: true; the input reads as it did. -/
def coordLateSpec : ChangeSpec := { name := "coordLate", fn := fun _ => fun
  | [d1, d2, d3, d4] => { results := [.lit (.bool true)], args := [d1, d2, d3, d4] }
  | _ => none }
def coordLateRow : OpenClaim := { program := "ytlabpgdimhbocaa", sum := "deaaac2a6a80877718d851e43bc98ede2734ccfe8b1e19030ef1b303d0113583", func := "clepsydra/clepsydralaw24.CoordLate", spec := "coordLate", inPlace := ["slices.overlaps[clepsydra/api.Item]", "sync/atomic.LoadUint32", "(*internal/sync.Mutex).Lock", "internal/race.Disable", "sync/atomic.CompareAndSwapInt32", "internal/race.Enable", "internal/race.Acquire", "(*internal/sync.Mutex).lockSlow", "internal/sync.runtime_canSpin", "internal/sync.runtime_doSpin", "internal/sync.throw", "internal/sync.runtime_nanotime", "internal/sync.runtime_SemacquireMutex", "sync/atomic.AddInt32", "(*internal/sync.Mutex).Unlock", "internal/race.ReleaseMerge", "(*internal/sync.Mutex).unlockSlow", "internal/sync.fatal", "internal/sync.runtime_Semrelease", "sync/atomic.StoreUint32"], unfollowed := true, recurses := true, apart := false }
def CoordLateSaid : Prop := coordLateRow.holds Try.pinned (OpenSpec.ofChange coordLateSpec)

/-- ITS FALSE NEIGHBOUR: 'it returns false'. Refute it at one input. -/
def coordLateWrong : ChangeSpec := { name := "coordLate", fn := fun _ => fun
  | [d1, d2, d3, d4] => { results := [.lit (.bool false)], args := [d1, d2, d3, d4] }
  | _ => none }
def CoordLateWrongFalsely : Prop := coordLateRow.holds Try.pinned (OpenSpec.ofChange coordLateWrong)

/- THE SECOND FORM. 'bulk': how many values and letters a reading holds, each counted each time it is reached (what is shared counts as often as it is met; a slice's spare places count too). A statement '..UptoSaid' is the law's where the arguments, and the package variables that the reading takes, are together of bulk at most 1048576: NARROWER than '..Said'. Prove '..Said' where nothing that the law and all that it calls make is longer than what came in: it says more and counts as full. Else prove '..UptoSaid'. A law counts once. -/
mutual
def uptoBulk {H : Type} : DataW H → Nat
  | .lit (.string bytes) => bytes.length + 1
  | .lit _ => 1
  | .nil => 1
  | .ptr d => uptoBulk d + 1
  | .slice elems spare => uptoBulkAll elems + uptoBulkAll spare + 1
  | .agg parts => uptoBulkAll parts + 1
  | .iface _ d => uptoBulk d + 1
  | .map entries => uptoBulkEntries entries + 1
  | .held _ => 1
def uptoBulkAll {H : Type} : List (DataW H) → Nat
  | [] => 0
  | d :: r => uptoBulk d + uptoBulkAll r
def uptoBulkEntries {H : Type} : List (Lit × DataW H) → Nat
  | [] => 0
  | x :: r => uptoBulkEntry x + uptoBulkEntries r
def uptoBulkEntry {H : Type} : Lit × DataW H → Nat
  | (.string bytes, d) => bytes.length + uptoBulk d + 1
  | (_, d) => uptoBulk d + 1
 end
def uptoSmall : (H : Type) → List (DataW H) → Bool := fun _ ds => decide (uptoBulkAll ds ≤ 1048576)
def OpenSpec.upto (s : _root_.Go.ChangeSpec) : _root_.Go.OpenSpec := { _root_.Go.OpenSpec.ofChange s with cond := some uptoSmall }

/-- 'clepsydralaw24.CoordOld', WHERE WHAT IT READS IS OF BULK AT MOST 1048576: true; the input reads as it did. -/
def coordOldUptoRow : OpenClaim := { program := "ytlabpgdimhbocaa", sum := "deaaac2a6a80877718d851e43bc98ede2734ccfe8b1e19030ef1b303d0113583", func := "clepsydra/clepsydralaw24.CoordOld", spec := "coordOld", inPlace := ["slices.overlaps[clepsydra/api.Item]", "sync/atomic.LoadUint32", "(*internal/sync.Mutex).Lock", "internal/race.Disable", "sync/atomic.CompareAndSwapInt32", "internal/race.Enable", "internal/race.Acquire", "(*internal/sync.Mutex).lockSlow", "internal/sync.runtime_canSpin", "internal/sync.runtime_doSpin", "internal/sync.throw", "internal/sync.runtime_nanotime", "internal/sync.runtime_SemacquireMutex", "sync/atomic.AddInt32", "(*internal/sync.Mutex).Unlock", "internal/race.ReleaseMerge", "(*internal/sync.Mutex).unlockSlow", "internal/sync.fatal", "internal/sync.runtime_Semrelease", "sync/atomic.StoreUint32"], unfollowed := true, recurses := true, apart := false, narrowed := true }
def CoordOldUptoSaid : Prop := coordOldUptoRow.holds Try.pinned (OpenSpec.upto coordOldSpec)

/-- 'clepsydralaw24.CoordTurns', WHERE WHAT IT READS IS OF BULK AT MOST 1048576: true; the input reads as it did. -/
def coordTurnsUptoRow : OpenClaim := { program := "ytlabpgdimhbocaa", sum := "deaaac2a6a80877718d851e43bc98ede2734ccfe8b1e19030ef1b303d0113583", func := "clepsydra/clepsydralaw24.CoordTurns", spec := "coordTurns", inPlace := ["slices.overlaps[clepsydra/api.Item]", "sync/atomic.LoadUint32", "(*internal/sync.Mutex).Lock", "internal/race.Disable", "sync/atomic.CompareAndSwapInt32", "internal/race.Enable", "internal/race.Acquire", "(*internal/sync.Mutex).lockSlow", "internal/sync.runtime_canSpin", "internal/sync.runtime_doSpin", "internal/sync.throw", "internal/sync.runtime_nanotime", "internal/sync.runtime_SemacquireMutex", "sync/atomic.AddInt32", "(*internal/sync.Mutex).Unlock", "internal/race.ReleaseMerge", "(*internal/sync.Mutex).unlockSlow", "internal/sync.fatal", "internal/sync.runtime_Semrelease", "sync/atomic.StoreUint32"], unfollowed := true, recurses := true, apart := false, narrowed := true }
def CoordTurnsUptoSaid : Prop := coordTurnsUptoRow.holds Try.pinned (OpenSpec.upto coordTurnsSpec)

/-- 'clepsydralaw24.CoordReads', WHERE WHAT IT READS IS OF BULK AT MOST 1048576: true; the input reads as it did. -/
def coordReadsUptoRow : OpenClaim := { program := "ytlabpgdimhbocaa", sum := "deaaac2a6a80877718d851e43bc98ede2734ccfe8b1e19030ef1b303d0113583", func := "clepsydra/clepsydralaw24.CoordReads", spec := "coordReads", inPlace := ["slices.overlaps[clepsydra/api.Item]", "sync/atomic.LoadUint32", "(*internal/sync.Mutex).Lock", "internal/race.Disable", "sync/atomic.CompareAndSwapInt32", "internal/race.Enable", "internal/race.Acquire", "(*internal/sync.Mutex).lockSlow", "internal/sync.runtime_canSpin", "internal/sync.runtime_doSpin", "internal/sync.throw", "internal/sync.runtime_nanotime", "internal/sync.runtime_SemacquireMutex", "sync/atomic.AddInt32", "(*internal/sync.Mutex).Unlock", "internal/race.ReleaseMerge", "(*internal/sync.Mutex).unlockSlow", "internal/sync.fatal", "internal/sync.runtime_Semrelease", "sync/atomic.StoreUint32"], unfollowed := true, recurses := true, apart := false, narrowed := true }
def CoordReadsUptoSaid : Prop := coordReadsUptoRow.holds Try.pinned (OpenSpec.upto coordReadsSpec)

/-- 'clepsydralaw24.CoordLate', WHERE WHAT IT READS IS OF BULK AT MOST 1048576: true; the input reads as it did. -/
def coordLateUptoRow : OpenClaim := { program := "ytlabpgdimhbocaa", sum := "deaaac2a6a80877718d851e43bc98ede2734ccfe8b1e19030ef1b303d0113583", func := "clepsydra/clepsydralaw24.CoordLate", spec := "coordLate", inPlace := ["slices.overlaps[clepsydra/api.Item]", "sync/atomic.LoadUint32", "(*internal/sync.Mutex).Lock", "internal/race.Disable", "sync/atomic.CompareAndSwapInt32", "internal/race.Enable", "internal/race.Acquire", "(*internal/sync.Mutex).lockSlow", "internal/sync.runtime_canSpin", "internal/sync.runtime_doSpin", "internal/sync.throw", "internal/sync.runtime_nanotime", "internal/sync.runtime_SemacquireMutex", "sync/atomic.AddInt32", "(*internal/sync.Mutex).Unlock", "internal/race.ReleaseMerge", "(*internal/sync.Mutex).unlockSlow", "internal/sync.fatal", "internal/sync.runtime_Semrelease", "sync/atomic.StoreUint32"], unfollowed := true, recurses := true, apart := false, narrowed := true }
def CoordLateUptoSaid : Prop := coordLateUptoRow.holds Try.pinned (OpenSpec.upto coordLateSpec)

end Rows
end Go.Proofs.Ytlabpgdimhbocaa
