/- clepsydralaw27.awake returns true: a contract. No condition. -/
import Derived.Test.YtebnifpclebliaaAxP
namespace Go.Proofs.Ytebnifpclebliaa
set_option linter.unusedVariables false
set_option linter.unusedSimpArgs false
open Go.ChangeShapes Go.WideShapes Go.ChangeAt Go.RowKit

abbrev p0 : An := ⟨1, 1, 3, 4, 5, 0, 8, none, 0, 0⟩
abbrev xx : It := ⟨3, 2, 4, 8, 5⟩
theorem xx_good : It.good xx := by unfold It.good; decide
theorem p0_b : itB p0 = true := by unfold p0 itB; decide
theorem p0_v : itV p0 = xx := by unfold itV; rw [p0_b]; rfl
theorem p0_items : itemsL [p0] = [xx] := by
  unfold itemsL
  have : itO p0 = some xx := by unfold itO; rw [p0_b]; rfl
  simp [this]
theorem p0_none : readL [xx] [8] [] 3 = false := by
  unfold readL
  have : anyI (rd2 3 [8] [xx] []) [xx] = true := by
    unfold anyI rd2 thereB
    decide
  rw [this]; simp
theorem p0_one : readL [xx] [8] [xx] 3 = true := by
  unfold readL
  have h1 : stateB [xx] = true := stateB_true ⟨by intro y hy; simp at hy; subst hy; exact xx_good, by unfold Rising; simp, by intro t ht x hx; simp at ht hx; subst ht hx; unfold It.hides xx; omega⟩
  have h2 : anyI (rd2 3 [8] [xx] [xx]) [xx] = false := by
    unfold anyI rd2 thereB
    decide
  have h3 : anyI (rd1 3 [xx]) [xx] = false := by
    unfold anyI rd1
    decide
  rw [h1, h2, h3]; rfl
theorem ev_nil (f : Int) : evensB [] f = true := evensB_yes (fun i j hi => absurd hi (by simp))
theorem ans_new {w : World} {g : Nat} {y : An} {t : TypeId} {fr : Nat × Nat} (h : w.heap[g]? = some (.cells y.cells.toArray t fr)) : AnsAt w (some ⟨g, 0, none⟩) [y] := RowAt.new_one h
theorem u64_new {w : World} {g : Nat} {y : Int} {t : TypeId} {fr : Nat × Nat} (h : w.heap[g]? = some (.cells #[.int .u64 y] t fr)) : ValsAt u64v w (some ⟨g, 0, none⟩) [y] := RowAt.new_one (cells := fun a => [u64v a]) h
set_option maxHeartbeats 3200000 in
set_option maxRecDepth 100000 in
theorem awake27_any (w : World) : Calls Try.prog 11 #[] w fun e w' => e = .returned (.bool true) ∧ Below w.heap.size w w' := by
  have HC := hide (fun W => aitem_any p0 W)
  rw [p0_b, p0_v] at HC
  have hq := fun W => run_eql_item xx xx W
  rw [eqI_self] at hq
  go_enter Try.func11, Try.ntmps11
  go_wp2_with fail
  refine (Calls.mono (HC.out _) ?_); rintro e w1 ⟨rfl, hg1⟩
  have A1 : Hid (AnAt w1 w.heap.size 0 p0) := hide ((AnAt.box (t := 41) (fr := (0, 0)) (heap_alloc_new w _)).below hg1)
  have hz1 : w.heap.size + 1 ≤ w1.heap.size := by have := hg1.size; simp at this; omega
  have HB1 := hide (below_step (below_alloc (Below.refl w.heap.size w) _) hg1)
  clear hg1
  obtain ⟨lt0, q0, q1, q2, q3, q4, q5, q6, q7⟩ := A1.out
  dsimp only at q0 q1 q2 q3 q4 q5 q6 q7
  go_wp2_with fail
  obtain ⟨g1, g2, g3, g4⟩ := al3 w1 (.cells xx.cells.toArray 32) (.cells p0.cells.toArray 41) (.cells #[.int .u64 8] 23)
  have hr1 := read_any (some ⟨w1.heap.size + 1, 0, none⟩) 1 [p0] (some ⟨w1.heap.size + 1 + 1, 0, none⟩) 1 [8] (vg := .slice none 0 0) (got := []) 3 (w := ((w1.alloc (.cells xx.cells.toArray 32)).alloc (.cells p0.cells.toArray 41)).alloc (.cells #[.int .u64 8] 23))
    (ans_new g2) (u64_new g3) (Sl.nil_ _) (by simp) (by simp) (by simp)
  rw [p0_items, p0_none] at hr1
  have HR1 := hide hr1
  have HG1 := hide g1
  have HG4 := hide g4
  clear g1 g2 g3 g4 hr1
  refine (Calls.mono HR1.out ?_); rintro e w2 ⟨rfl, hg2⟩
  have HB2 := hide (below_step (below_step HB1.out HG4.out) hg2)
  have X2 : Hid (ItAt w2 w1.heap.size xx) := hide ((ItAt.box (t := 32) HG1.out).below hg2)
  have A2 : Hid (AnAt w2 w.heap.size 0 p0) := hide ((A1.out.below HG4.out).below hg2)
  have hz2 : w1.heap.size + 3 ≤ w2.heap.size := by have := hg2.size; simp at this; omega
  clear hg2 HR1 HG1 HG4 lt0 q0 q1 q2 q3 q4 q5 q6 q7 A1 HB1 HC
  obtain ⟨lt0, q0, q1, q2, q3, q4, q5, q6, q7⟩ := A2.out
  dsimp only at q0 q1 q2 q3 q4 q5 q6 q7
  obtain ⟨xl, x0, x1, x2, x3, x4⟩ := X2.out
  dsimp only at x0 x1 x2 x3 x4
  go_wp2_with fail
  obtain ⟨g1, g2, g3, g4⟩ := al3 w2 (.cells p0.cells.toArray 41) (.cells #[.int .u64 8] 23) (.cells xx.cells.toArray 32)
  have hr1 := read_any (some ⟨w2.heap.size, 0, none⟩) 1 [p0] (some ⟨w2.heap.size + 1, 0, none⟩) 1 [8] (vg := .slice (some ⟨w2.heap.size + 1 + 1, 0, none⟩) 1 1) (got := [xx]) 3 (w := ((w2.alloc (.cells p0.cells.toArray 41)).alloc (.cells #[.int .u64 8] 23)).alloc (.cells xx.cells.toArray 32))
    (ans_new g1) (u64_new g2) (Sl.mk_ (c := 1) (L := [xx]) (RowAt.new_one g3) (Nat.le_refl _) (by decide)) (by simp) (by simp) (by simp)
  rw [p0_items, p0_one] at hr1
  have HR1 := hide hr1
  have HG4 := hide g4
  clear g1 g2 g3 g4 hr1 lt0 q0 q1 q2 q3 q4 q5 q6 q7 xl x0 x1 x2 x3 x4
  refine (Calls.mono HR1.out ?_); rintro e w3 ⟨rfl, hg3⟩
  have HB3 := hide (below_step (below_step HB2.out HG4.out) hg3)
  clear hg3 HR1 HG4 HB2 X2 A2
  go_wp2_with fail
  have hr1 := evens_any none 0 [] 5 w3 RowAt.nil_ (by simp) (by simp) (by simp)
  rw [ev_nil] at hr1
  refine (Calls.mono hr1 ?_); rintro e w4 ⟨rfl, hg4⟩
  have HB4 := hide (below_step HB3.out hg4)
  clear hg4 hr1
  go_wp2_with fail
  go_ret
  exact ⟨rfl, HB4.out⟩
end Go.Proofs.Ytebnifpclebliaa
