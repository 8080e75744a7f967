/- slices.Clone of items: a contract. Conditions: the list readable. -/
import Derived.Test.YtfmckinlgaejeaaApp
import Derived.Test.YtfmckinlgaejeaaSsE
import Derived.Laws.Cover3
namespace Go.Proofs.Ytfmckinlgaejeaa
set_option linter.unusedVariables false
set_option linter.unusedSimpArgs false
open Go.ChangeShapes Go.WideShapes Go.ChangeAt Go.RowKit

set_option maxRecDepth 100000 in
set_option maxHeartbeats 1000000 in
theorem clone_it (A : Option Addr) (c : Nat) (L : List It) (w : World) (hL : ItemsAt w A L) (hn : L.length ≤ 1099511627776) :
    Calls Try.prog 34 #[.slice A L.length c] w (RetOw L w) := by
  unfold RetOw
  cases A with
  | none =>
    obtain rfl := items_none hL rfl
    have hq : (binOp .eql 22 (.slice none 0 c) (.slice none 0 0)).run Try.prog w = .ok (.bool true) w := by
      simp [go_sem, binOp, run_equal_slice_nil (P := Try.prog) w 22 28 none 0 c Try.underlying22]
    go_enter Try.func34, Try.ntmps34
    go_wp2_with fail
    go_ret
    exact ⟨_, rfl, Ow.nil_ _ _, Below.refl _ _⟩
  | some a =>
    have HOE := hide (own_emptyE It.cells 5 28 w.heap.size w (Nat.le_refl _))
    have hb1 := below_alloc (Below.refl w.heap.size w) (.cells #[] 28)
    have HR := hide (hL.below hb1)
    have HB := hide hb1
    have hz := hb1.size
    clear hL hb1
    have hq : (binOp .eql 22 (.slice (some a) L.length c) (.slice none 0 0)).run Try.prog w = .ok (.bool false) w := by
      simp [go_sem, binOp, run_equal_slice_nil (P := Try.prog) w 22 28 (some a) L.length c Try.underlying22]
    go_enter Try.func34, Try.ntmps34
    go_wp2_with (at_builtin; refine wpList_append_items rfl (.tmp 5) (.tmp 6) rfl w.heap.size w.heap.size w _ _ [] (some a) L.length c L rfl rfl rfl HR.out HOE.out HB.out (Nat.le_refl _) hz (by simp only [List.length_nil]; omega) ?_; intro v2 w2 ho2 hb2 hg2; have HO2 := hide ho2; have HB2 := hide hb2; clear ho2 hb2 hg2)
    go_ret
    exact ⟨_, rfl, HO2.out, HB2.out⟩
end Go.Proofs.Ytfmckinlgaejeaa
