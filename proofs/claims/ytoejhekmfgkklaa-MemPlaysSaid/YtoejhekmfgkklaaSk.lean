/- sync/atomic.Pointer's Load and Store, of a skip list's nodes: contracts. Conditions: what the cell holds is nil, or a node's block. -/
import Derived.Test.YtoejhekmfgkklaaItem
import Derived.Test.YtoejhekmfgkklaaSkPl
import Derived.Laws.LoneSync
namespace Go.Proofs.Ytoejhekmfgkklaa
set_option linter.unusedVariables false
set_option linter.unusedSimpArgs false
open Go.ChangeShapes Go.WideShapes Go.ChangeAt Go.RowKit

section
variable {P : Program} {f : FuncId} {fn : Func}
theorem run_call_loadP (hf : P.funcs[f]? = some fn) (hname : (fn.name == "runtime.NumGoroutine") = false) (hb : fn.body.isNone = true) (hn : Extern.findNext fn = none)
    (he : Extern.find fn = some (Extern.Atomic.loadT .ptr)) {a : Addr} {x : Option Addr} {w : World} (hc : w.cell? a = some (.pointer x)) :
    (callFunc f #[.pointer (some a)]).run P w = .ok (.value (.pointer x)) w := by
  rw [run_callFunc_extern hf hname hb hn he]
  change (Sem.run P (do Extern.Atomic.read .ptr (← asAddr (.pointer (some a)))) w).andThen _ = _
  simp [Extern.Atomic.read, asAddr, hc, Result.andThen]
theorem run_call_storeP (hf : P.funcs[f]? = some fn) (hname : (fn.name == "runtime.NumGoroutine") = false) (hb : fn.body.isNone = true) (hn : Extern.findNext fn = none)
    (he : Extern.find fn = some Extern.Atomic.storeT) {a : Addr} {y : Option Addr} {u : Value} {w : World} (hc : w.cell? a = some u) (hz : w.frozen? a = false) :
    (callFunc f #[.pointer (some a), .pointer y]).run P w = .ok (.value (.tuple #[])) (w.setCell a (.pointer y)) := by
  rw [run_callFunc_extern hf hname hb hn he]
  change (Sem.run P (do
    store (← asAddr (.pointer (some a))) (.pointer y) .atomic
    pure Extern.Atomic.none_) w).andThen _ = _
  simp [asAddr, hc, hz, run_store P w a (.pointer y) .atomic rfl, Result.andThen, Extern.Atomic.none_]
/-- A pointer without a type, back into a pointer to what the block holds. -/
theorem run_from_unsafe {src dst u : TypeId} (hs : P.underlying src = some .unsafePointer) (hd : P.underlying dst = some (.pointer u)) (hu : (P.info? u).map (fun i => decide (i.size = 0)) = some false) {b n : Nat} {w : World} (hsh : w.shape? b = some (u, n))
    (hl : liesAt P P.depth u (n / P.cellsOf u) 0 u 1 = true) : (convert src dst (.pointer (some ⟨b, 0, none⟩))).run P w = .ok (.pointer (some ⟨b, 0, none⟩)) w := by
  obtain ⟨i, hi, hz0⟩ := Option.map_eq_some_iff.1 hu
  have hz : i.size ≠ 0 := by simpa using hz0
  simp [convert, run_underlying hs, run_underlying hd, Conv.unsafePointer, Conv.seenAt, viewAt, hsh, variablesAt, hl, sizeOf, typeInfo, hi, hz]
theorem run_from_unsafe_nil {src dst u : TypeId} (hs : P.underlying src = some .unsafePointer) (hd : P.underlying dst = some (.pointer u)) {w : World} : (convert src dst (.pointer none)).run P w = .ok (.pointer none) w := by
  simp [convert, run_underlying hs, run_underlying hd, Conv.unsafePointer]
theorem run_to_unsafe_nil {src dst u : TypeId} (hs : P.underlying dst = some .unsafePointer) (hd : P.underlying src = some (.pointer u)) {w : World} : (convert src dst (.pointer none)).run P w = .ok (.pointer none) w := by
  simp [convert, run_underlying hs, run_underlying hd, Conv.unsafePointer]
end
theorem node_lies : liesAt Try.prog Try.prog.depth 88 (6 / Try.prog.cellsOf 88) 0 88 1 = true := by kernel_rfl
theorem node_size : (Try.prog.info? 88).map (fun i => decide (i.size = 0)) = some false := by kernel_rfl
/-- Nil, or a node's block. -/
def PtrOk (w : World) : Option Addr → Prop
  | none => True
  | some a => ∃ b, a = ⟨b, 0, none⟩ ∧ w.shape? b = some (88, 6) ∧ ∃ v, w.cell? ⟨b, 0, none⟩ = some v
set_option maxRecDepth 100000 in
set_option maxHeartbeats 400000 in
theorem load_any (g k : Nat) (a : Option Addr) (w : World) (h : w.cell? ⟨g, k, none⟩ = some (.pointer a)) (hp : PtrOk w a) : Calls Try.prog 43 #[.pointer (some ⟨g, k, none⟩)] w fun e w' => e = .returned (.pointer a) ∧ w' = w := by
  have hl := run_call_loadP (P := Try.prog) Try.func53 (by kernel_rfl) (by kernel_rfl) (by kernel_rfl) (by kernel_rfl) (w := w) h
  have hc : (convert 83 75 (.pointer a)).run Try.prog w = .ok (.pointer a) w := by
    cases a with
    | none => exact run_from_unsafe_nil Try.underlying83 Try.underlying75
    | some ad =>
      obtain ⟨b, rfl, hs, _⟩ := hp
      exact run_from_unsafe Try.underlying83 Try.underlying75 node_size hs node_lies
  clear hp
  go_enter Try.func43, Try.ntmps43
  go_wp2_with fail
  go_ret
  exact ⟨rfl, rfl⟩
set_option maxRecDepth 100000 in
set_option maxHeartbeats 400000 in
theorem store_any (g k : Nat) (a v : Option Addr) (w : World) (h : w.cell? ⟨g, k, none⟩ = some (.pointer v)) (hf : w.frozen? ⟨g, k, none⟩ = false) (hp : PtrOk w a) : Calls Try.prog 46 #[.pointer (some ⟨g, k, none⟩), .pointer a] w fun e w' => e = .returned (.tuple #[]) ∧ w' = w.setCell ⟨g, k, none⟩ (.pointer a) := by
  have hl := run_call_storeP (P := Try.prog) Try.func54 (by kernel_rfl) (by kernel_rfl) (by kernel_rfl) (by kernel_rfl) (w := w) (y := a) h hf
  have hc : (convert 75 83 (.pointer a)).run Try.prog w = .ok (.pointer a) w := by
    cases a with
    | none => exact run_to_unsafe_nil Try.underlying83 Try.underlying75
    | some ad =>
      obtain ⟨b, rfl, hs, u, hu⟩ := hp
      exact run_convert_to_unsafe Try.underlying75 Try.underlying83 node_size hu
  clear hp
  go_enter Try.func46, Try.ntmps46
  go_wp2_with fail
  go_end0
  exact ⟨rfl, rfl⟩
end Go.Proofs.Ytoejhekmfgkklaa
