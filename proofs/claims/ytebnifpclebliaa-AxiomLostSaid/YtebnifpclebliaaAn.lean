/- clepsydraref20.ItemOf: a contract. No condition. -/
import Derived.Test.YtebnifpclebliaaAnA
namespace Go.Proofs.Ytebnifpclebliaa
set_option linter.unusedVariables false
set_option linter.unusedSimpArgs false
open Go.ChangeShapes Go.WideShapes Go.ChangeAt Go.RowKit
set_option maxHeartbeats 3200000 in
set_option maxRecDepth 100000 in
theorem ritem_any (a : An) (w : World) : Calls Try.prog 13 #[a.val] w fun e w' => e = .returned (.tuple #[(itV a).val, .bool (itB a)]) ∧ Below w.heap.size w w' := by
  obtain ⟨a0, k, s, t, x, a5, v, la, ln, lc⟩ := a
  by_cases hk1 : k = 1
  · obtain ⟨e1, e2⟩ := it_one (s := s) (t := t) (x := x) (v := v) a0 a5 la ln lc hk1
    rw [e1, e2]
    have HG := hide (fun W => rgood_any ⟨s, 2, t, v, x⟩ W)
    have b1 : (k == 1) = true := by simp [hk1]
    have b2 : (k == 2) = false := by simp [hk1]
    clear e1 e2 hk1
    cases hg : goodB ⟨s, 2, t, v, x⟩
    · rw [hg] at HG
      clear hg
      go_enter Try.func13, Try.ntmps13
      go_upto_region 5 with fail
      go_region
      go_wp2_with fail
      refine (Calls.mono (HG.out _) ?_); rintro e w2 ⟨rfl, hg2⟩
      obtain ⟨g1, g2, g3, g4⟩ := al3 w (.cells #[.int .u64 a0, .int .i64 k, .int .i64 s, .int .u64 t, .int .i64 x, .int .i64 a5, .int .u64 v, .slice la ln lc] 41) (.cells #[.int .i64 0, .int .i64 0, .int .u64 0, .int .u64 0, .int .i64 0] 32) (.cells (It.cells ⟨s, 2, t, v, x⟩).toArray 32)
      replace g4 := g4.drew
      have hz2 : w.heap.size + 3 ≤ w2.heap.size := by have := hg2.size; simp at this; omega
      have A2 : Hid (AnAt w2 w.heap.size 0 ⟨a0, k, s, t, x, a5, v, la, ln, lc⟩) := hide (AnAt.box (t := 41) ((hg2.block _ (by simp; omega)).trans g1))
      have Z2 : Hid (Zer w2 (w.heap.size + 1)) := hide (Zer.mk ((hg2.block _ (by simp)).trans g2))
      have X2 : Hid (ItAt w2 (w.heap.size + 2) ⟨s, 2, t, v, x⟩) := hide (ItAt.box (t := 32) ((hg2.block _ (by simp)).trans g3))
      have HB2 := hide (below_step g4 hg2)
      clear g1 g2 g3 g4 hg2 HG
      have hgz : w.heap.size ≤ w.heap.size + 1 := by omega
      generalize w.heap.size + 2 = n2 at *
      generalize w.heap.size + 1 = n1 at *
      obtain ⟨al0, q0, q1, q2, q3, q4, q5, q6, q7⟩ := A2.out
      dsimp only at q0 q1 q2 q3 q4 q5 q6 q7
      clear q0 q2 q5 q6 q7
      obtain ⟨zl, z0, z1, z2, z3, z4, zf⟩ := Zer.cells Z2.out
      go_wp2_with fail
      obtain ⟨r0, r1, r2, r3, r4⟩ := box_item (put_res ⟨0, 0, 0, 0, 0⟩ Z2.out.row)
      dsimp only at r0 r1 r2 r3 r4
      refine bodyPost_ret (v := .tuple #[It.val ⟨0, 0, 0, 0, 0⟩, .bool false]) (by simp [results, Try.results13, go_sem, r0, r1, r2, r3, r4]) rfl ?_
      have hb1 := HB2.out
      exact ⟨by simp, ((((hb1.setCell hgz _).setCell hgz _).setCell hgz _).setCell hgz _).setCell hgz _⟩
    · rw [hg] at HG
      clear hg
      go_enter Try.func13, Try.ntmps13
      go_upto_region 5 with fail
      go_region
      go_wp2_with fail
      refine (Calls.mono (HG.out _) ?_); rintro e w2 ⟨rfl, hg2⟩
      obtain ⟨g1, g2, g3, g4⟩ := al3 w (.cells #[.int .u64 a0, .int .i64 k, .int .i64 s, .int .u64 t, .int .i64 x, .int .i64 a5, .int .u64 v, .slice la ln lc] 41) (.cells #[.int .i64 0, .int .i64 0, .int .u64 0, .int .u64 0, .int .i64 0] 32) (.cells (It.cells ⟨s, 2, t, v, x⟩).toArray 32)
      replace g4 := g4.drew
      have hz2 : w.heap.size + 3 ≤ w2.heap.size := by have := hg2.size; simp at this; omega
      have A2 : Hid (AnAt w2 w.heap.size 0 ⟨a0, k, s, t, x, a5, v, la, ln, lc⟩) := hide (AnAt.box (t := 41) ((hg2.block _ (by simp; omega)).trans g1))
      have Z2 : Hid (Zer w2 (w.heap.size + 1)) := hide (Zer.mk ((hg2.block _ (by simp)).trans g2))
      have X2 : Hid (ItAt w2 (w.heap.size + 2) ⟨s, 2, t, v, x⟩) := hide (ItAt.box (t := 32) ((hg2.block _ (by simp)).trans g3))
      have HB2 := hide (below_step g4 hg2)
      clear g1 g2 g3 g4 hg2 HG
      have hgz : w.heap.size ≤ w.heap.size + 1 := by omega
      generalize w.heap.size + 2 = n2 at *
      generalize w.heap.size + 1 = n1 at *
      obtain ⟨al0, q0, q1, q2, q3, q4, q5, q6, q7⟩ := A2.out
      dsimp only at q0 q1 q2 q3 q4 q5 q6 q7
      clear q0 q2 q5 q6 q7
      obtain ⟨zl, z0, z1, z2, z3, z4, zf⟩ := Zer.cells Z2.out
      obtain ⟨xl, x0, x1, x2, x3, x4⟩ := X2.out
      dsimp only at x0 x1 x2 x3 x4
      go_wp2_with fail
      obtain ⟨r0, r1, r2, r3, r4⟩ := box_item (put_res ⟨s, 2, t, v, x⟩ Z2.out.row)
      dsimp only at r0 r1 r2 r3 r4
      refine bodyPost_ret (v := .tuple #[It.val ⟨s, 2, t, v, x⟩, .bool true]) (by simp [results, Try.results13, go_sem, r0, r1, r2, r3, r4]) rfl ?_
      have hb1 := HB2.out
      exact ⟨by simp, ((((hb1.setCell hgz _).setCell hgz _).setCell hgz _).setCell hgz _).setCell hgz _⟩
  by_cases hk2 : k = 2
  · obtain ⟨e1, e2⟩ := it_two (s := s) (t := t) (x := x) (v := v) a0 a5 la ln lc hk2
    rw [e1, e2]
    have HG := hide (fun W => rgood_any ⟨s, 1, 0, v, 0⟩ W)
    have b1 : (k == 1) = false := by simp [hk2]
    have b2 : (k == 2) = true := by simp [hk2]
    clear e1 e2 hk1 hk2
    cases hg : goodB ⟨s, 1, 0, v, 0⟩
    · rw [hg] at HG
      rw [Bool.false_and, Bool.false_and]
      clear hg
      go_enter Try.func13, Try.ntmps13
      go_wp2_with fail
      refine (Calls.mono (HG.out _) ?_); rintro e w2 ⟨rfl, hg2⟩
      obtain ⟨g1, g2, g3, g4⟩ := al3 w (.cells #[.int .u64 a0, .int .i64 k, .int .i64 s, .int .u64 t, .int .i64 x, .int .i64 a5, .int .u64 v, .slice la ln lc] 41) (.cells #[.int .i64 0, .int .i64 0, .int .u64 0, .int .u64 0, .int .i64 0] 32) (.cells (It.cells ⟨s, 1, 0, v, 0⟩).toArray 32)
      have hz2 : w.heap.size + 3 ≤ w2.heap.size := by have := hg2.size; simp at this; omega
      have A2 : Hid (AnAt w2 w.heap.size 0 ⟨a0, k, s, t, x, a5, v, la, ln, lc⟩) := hide (AnAt.box (t := 41) ((hg2.block _ (by simp; omega)).trans g1))
      have Z2 : Hid (Zer w2 (w.heap.size + 1)) := hide (Zer.mk ((hg2.block _ (by simp)).trans g2))
      have X2 : Hid (ItAt w2 (w.heap.size + 2) ⟨s, 1, 0, v, 0⟩) := hide (ItAt.box (t := 32) ((hg2.block _ (by simp)).trans g3))
      have HB2 := hide (below_step g4 hg2)
      clear g1 g2 g3 g4 hg2 HG
      have hgz : w.heap.size ≤ w.heap.size + 1 := by omega
      generalize w.heap.size + 2 = n2 at *
      generalize w.heap.size + 1 = n1 at *
      obtain ⟨al0, q0, q1, q2, q3, q4, q5, q6, q7⟩ := A2.out
      dsimp only at q0 q1 q2 q3 q4 q5 q6 q7
      clear q0 q2 q5 q6 q7
      obtain ⟨zl, z0, z1, z2, z3, z4, zf⟩ := Zer.cells Z2.out
      go_wp2_with fail
      obtain ⟨r0, r1, r2, r3, r4⟩ := box_item (put_res ⟨0, 0, 0, 0, 0⟩ Z2.out.row)
      dsimp only at r0 r1 r2 r3 r4
      refine bodyPost_ret (v := .tuple #[It.val ⟨0, 0, 0, 0, 0⟩, .bool false]) (by simp [results, Try.results13, go_sem, r0, r1, r2, r3, r4]) rfl ?_
      have hb1 := HB2.out
      exact ⟨by simp, ((((hb1.setCell hgz _).setCell hgz _).setCell hgz _).setCell hgz _).setCell hgz _⟩
    · rw [hg] at HG
      rw [Bool.true_and]
      clear hg
      by_cases ht : t = 0
      · have b3 : (t != 0) = false := by simp [ht]
        rw [decide_eq_true ht, Bool.true_and]
        clear ht
        by_cases hx : x = 0
        · have b4 : (x != 0) = false := by simp [hx]
          rw [decide_eq_true hx]
          clear hx
          go_enter Try.func13, Try.ntmps13
          go_wp2_with fail
          refine (Calls.mono (HG.out _) ?_); rintro e w2 ⟨rfl, hg2⟩
          obtain ⟨g1, g2, g3, g4⟩ := al3 w (.cells #[.int .u64 a0, .int .i64 k, .int .i64 s, .int .u64 t, .int .i64 x, .int .i64 a5, .int .u64 v, .slice la ln lc] 41) (.cells #[.int .i64 0, .int .i64 0, .int .u64 0, .int .u64 0, .int .i64 0] 32) (.cells (It.cells ⟨s, 1, 0, v, 0⟩).toArray 32)
          have hz2 : w.heap.size + 3 ≤ w2.heap.size := by have := hg2.size; simp at this; omega
          have A2 : Hid (AnAt w2 w.heap.size 0 ⟨a0, k, s, t, x, a5, v, la, ln, lc⟩) := hide (AnAt.box (t := 41) ((hg2.block _ (by simp; omega)).trans g1))
          have Z2 : Hid (Zer w2 (w.heap.size + 1)) := hide (Zer.mk ((hg2.block _ (by simp)).trans g2))
          have X2 : Hid (ItAt w2 (w.heap.size + 2) ⟨s, 1, 0, v, 0⟩) := hide (ItAt.box (t := 32) ((hg2.block _ (by simp)).trans g3))
          have HB2 := hide (below_step g4 hg2)
          clear g1 g2 g3 g4 hg2 HG
          have hgz : w.heap.size ≤ w.heap.size + 1 := by omega
          generalize w.heap.size + 2 = n2 at *
          generalize w.heap.size + 1 = n1 at *
          obtain ⟨al0, q0, q1, q2, q3, q4, q5, q6, q7⟩ := A2.out
          dsimp only at q0 q1 q2 q3 q4 q5 q6 q7
          clear q0 q2 q5 q6 q7
          obtain ⟨zl, z0, z1, z2, z3, z4, zf⟩ := Zer.cells Z2.out
          obtain ⟨xl, x0, x1, x2, x3, x4⟩ := X2.out
          dsimp only at x0 x1 x2 x3 x4
          go_wp2_with fail
          obtain ⟨r0, r1, r2, r3, r4⟩ := box_item (put_res ⟨s, 1, 0, v, 0⟩ Z2.out.row)
          dsimp only at r0 r1 r2 r3 r4
          refine bodyPost_ret (v := .tuple #[It.val ⟨s, 1, 0, v, 0⟩, .bool true]) (by simp [results, Try.results13, go_sem, r0, r1, r2, r3, r4]) rfl ?_
          have hb1 := HB2.out
          exact ⟨by simp, ((((hb1.setCell hgz _).setCell hgz _).setCell hgz _).setCell hgz _).setCell hgz _⟩
        · have b4 : (x != 0) = true := by simp [hx]
          rw [decide_eq_false hx]
          clear hx
          go_enter Try.func13, Try.ntmps13
          go_wp2_with fail
          refine (Calls.mono (HG.out _) ?_); rintro e w2 ⟨rfl, hg2⟩
          obtain ⟨g1, g2, g3, g4⟩ := al3 w (.cells #[.int .u64 a0, .int .i64 k, .int .i64 s, .int .u64 t, .int .i64 x, .int .i64 a5, .int .u64 v, .slice la ln lc] 41) (.cells #[.int .i64 0, .int .i64 0, .int .u64 0, .int .u64 0, .int .i64 0] 32) (.cells (It.cells ⟨s, 1, 0, v, 0⟩).toArray 32)
          have hz2 : w.heap.size + 3 ≤ w2.heap.size := by have := hg2.size; simp at this; omega
          have A2 : Hid (AnAt w2 w.heap.size 0 ⟨a0, k, s, t, x, a5, v, la, ln, lc⟩) := hide (AnAt.box (t := 41) ((hg2.block _ (by simp; omega)).trans g1))
          have Z2 : Hid (Zer w2 (w.heap.size + 1)) := hide (Zer.mk ((hg2.block _ (by simp)).trans g2))
          have X2 : Hid (ItAt w2 (w.heap.size + 2) ⟨s, 1, 0, v, 0⟩) := hide (ItAt.box (t := 32) ((hg2.block _ (by simp)).trans g3))
          have HB2 := hide (below_step g4 hg2)
          clear g1 g2 g3 g4 hg2 HG
          have hgz : w.heap.size ≤ w.heap.size + 1 := by omega
          generalize w.heap.size + 2 = n2 at *
          generalize w.heap.size + 1 = n1 at *
          obtain ⟨al0, q0, q1, q2, q3, q4, q5, q6, q7⟩ := A2.out
          dsimp only at q0 q1 q2 q3 q4 q5 q6 q7
          clear q0 q2 q5 q6 q7
          obtain ⟨zl, z0, z1, z2, z3, z4, zf⟩ := Zer.cells Z2.out
          go_wp2_with fail
          obtain ⟨r0, r1, r2, r3, r4⟩ := box_item (put_res ⟨0, 0, 0, 0, 0⟩ Z2.out.row)
          dsimp only at r0 r1 r2 r3 r4
          refine bodyPost_ret (v := .tuple #[It.val ⟨0, 0, 0, 0, 0⟩, .bool false]) (by simp [results, Try.results13, go_sem, r0, r1, r2, r3, r4]) rfl ?_
          have hb1 := HB2.out
          exact ⟨by simp, ((((hb1.setCell hgz _).setCell hgz _).setCell hgz _).setCell hgz _).setCell hgz _⟩
      · have b3 : (t != 0) = true := by simp [ht]
        rw [decide_eq_false ht, Bool.false_and]
        clear ht
        go_enter Try.func13, Try.ntmps13
        go_wp2_with fail
        refine (Calls.mono (HG.out _) ?_); rintro e w2 ⟨rfl, hg2⟩
        obtain ⟨g1, g2, g3, g4⟩ := al3 w (.cells #[.int .u64 a0, .int .i64 k, .int .i64 s, .int .u64 t, .int .i64 x, .int .i64 a5, .int .u64 v, .slice la ln lc] 41) (.cells #[.int .i64 0, .int .i64 0, .int .u64 0, .int .u64 0, .int .i64 0] 32) (.cells (It.cells ⟨s, 1, 0, v, 0⟩).toArray 32)
        have hz2 : w.heap.size + 3 ≤ w2.heap.size := by have := hg2.size; simp at this; omega
        have A2 : Hid (AnAt w2 w.heap.size 0 ⟨a0, k, s, t, x, a5, v, la, ln, lc⟩) := hide (AnAt.box (t := 41) ((hg2.block _ (by simp; omega)).trans g1))
        have Z2 : Hid (Zer w2 (w.heap.size + 1)) := hide (Zer.mk ((hg2.block _ (by simp)).trans g2))
        have X2 : Hid (ItAt w2 (w.heap.size + 2) ⟨s, 1, 0, v, 0⟩) := hide (ItAt.box (t := 32) ((hg2.block _ (by simp)).trans g3))
        have HB2 := hide (below_step g4 hg2)
        clear g1 g2 g3 g4 hg2 HG
        have hgz : w.heap.size ≤ w.heap.size + 1 := by omega
        generalize w.heap.size + 2 = n2 at *
        generalize w.heap.size + 1 = n1 at *
        obtain ⟨al0, q0, q1, q2, q3, q4, q5, q6, q7⟩ := A2.out
        dsimp only at q0 q1 q2 q3 q4 q5 q6 q7
        clear q0 q2 q5 q6 q7
        obtain ⟨zl, z0, z1, z2, z3, z4, zf⟩ := Zer.cells Z2.out
        go_wp2_with fail
        obtain ⟨r0, r1, r2, r3, r4⟩ := box_item (put_res ⟨0, 0, 0, 0, 0⟩ Z2.out.row)
        dsimp only at r0 r1 r2 r3 r4
        refine bodyPost_ret (v := .tuple #[It.val ⟨0, 0, 0, 0, 0⟩, .bool false]) (by simp [results, Try.results13, go_sem, r0, r1, r2, r3, r4]) rfl ?_
        have hb1 := HB2.out
        exact ⟨by simp, ((((hb1.setCell hgz _).setCell hgz _).setCell hgz _).setCell hgz _).setCell hgz _⟩
  obtain ⟨e1, e2⟩ := it_else (s := s) (t := t) (x := x) (v := v) a0 a5 la ln lc hk1 hk2
  rw [e1, e2]
  have b1 : (k == 1) = false := by simp [hk1]
  have b2 : (k == 2) = false := by simp [hk2]
  clear e1 e2 hk1 hk2
  go_enter Try.func13, Try.ntmps13
  go_wp2_with fail
  refine bodyPost_ret (v := .tuple #[It.val ⟨0, 0, 0, 0, 0⟩, .bool false]) (by simp [results, Try.results13, go_sem]) rfl ?_
  exact ⟨rfl, by go_grown⟩
end Go.Proofs.Ytebnifpclebliaa
