/- clepsydralaw13.awake: a contract. No condition. -/
import Derived.Test.YtfmckinlgaejeaaMRows
import Derived.Test.YtfmckinlgaejeaaMOvl
import Derived.Deep.RegionHeld3
import Derived.Test.YtfmckinlgaejeaaHeld
namespace Go.Proofs.Ytfmckinlgaejeaa
set_option linter.unusedVariables false
set_option linter.unusedSimpArgs false
open Go.ChangeShapes Go.WideShapes Go.ChangeAt Go.RowKit

abbrev Xa : It := ⟨1, 2, 0, 2, 0⟩
abbrev Xb : It := ⟨2, 2, 0, 2, 0⟩
/-- Five blocks one behind the other. -/
theorem al5m (w : World) (o0 o1 o2 o3 o4 : Obj) :
    (((((w.alloc o0).alloc o1).alloc o2).alloc o3).alloc o4).heap[w.heap.size]? = some o0 ∧ (((((w.alloc o0).alloc o1).alloc o2).alloc o3).alloc o4).heap[w.heap.size + 1]? = some o1 ∧ (((((w.alloc o0).alloc o1).alloc o2).alloc o3).alloc o4).heap[w.heap.size + 2]? = some o2 ∧
    (((((w.alloc o0).alloc o1).alloc o2).alloc o3).alloc o4).heap[w.heap.size + 3]? = some o3 ∧ (((((w.alloc o0).alloc o1).alloc o2).alloc o3).alloc o4).heap[w.heap.size + 4]? = some o4 ∧ Below w.heap.size w (((((w.alloc o0).alloc o1).alloc o2).alloc o3).alloc o4) := by
  have k : ∀ (u : World) (o : Obj) (i : Nat) (v : Obj), u.heap[i]? = some v → (u.alloc o).heap[i]? = some v := fun u o i v h => (Below.heap_alloc u o i (Array.getElem?_eq_some_iff.1 h).1).trans h
  have h0 := heap_alloc_new w o0
  have h1 := heap_alloc_new (w.alloc o0) o1
  have h2 := heap_alloc_new ((w.alloc o0).alloc o1) o2
  have h3 := heap_alloc_new (((w.alloc o0).alloc o1).alloc o2) o3
  have h4 := heap_alloc_new ((((w.alloc o0).alloc o1).alloc o2).alloc o3) o4
  simp only [World.size_alloc] at h1 h2 h3 h4
  exact ⟨k _ _ _ _ (k _ _ _ _ (k _ _ _ _ (k _ _ _ _ h0))), k _ _ _ _ (k _ _ _ _ (k _ _ _ _ h1)), k _ _ _ _ (k _ _ _ _ h2), k _ _ _ _ h3, h4, below_alloc (below_alloc (below_alloc (below_alloc (below_alloc (Below.refl _ _) _) _) _) _) _⟩
abbrev wA (w : World) : World := ((((w.alloc (.cells Xa.cells.toArray 28)).alloc (.cells Xb.cells.toArray 28)).alloc (.cells Xb.cells.toArray 28)).alloc (.cells Xa.cells.toArray 28)).alloc (.cells #[.slice (some ⟨w.heap.size + 2, 0, none⟩) 1 1, .slice (some ⟨w.heap.size + 3, 0, none⟩) 1 1] 22)
set_option maxRecDepth 100000 in
set_option maxHeartbeats 3200000 in
theorem awake13_any (w : World) : Calls Try.prog 12 #[] w fun e w' => e = .returned (.bool true) ∧ Below w.heap.size w w' := by
  obtain ⟨p0, p1, p2, p3, p4, pb⟩ := al5m w (.cells Xa.cells.toArray 28) (.cells Xb.cells.toArray 28) (.cells Xb.cells.toArray 28) (.cells Xa.cells.toArray 28) (.cells #[.slice (some ⟨w.heap.size + 2, 0, none⟩) 1 1, .slice (some ⟨w.heap.size + 3, 0, none⟩) 1 1] 22)
  have hR : RowAt svC 1 (wA w) (some ⟨w.heap.size + 4, 0, none⟩) [⟨some ⟨w.heap.size + 2, 0, none⟩, 1, [Xb]⟩, ⟨some ⟨w.heap.size + 3, 0, none⟩, 1, [Xa]⟩] := by
    refine fun _ => ⟨w.heap.size + 4, 0, rfl, (Array.getElem?_eq_some_iff.1 p4).1, fun k hk j u hu => ?_⟩
    have hj : j = 0 := by
      cases j with
      | zero => rfl
      | succ j => simp at hu
    subst hj
    have hk2 : k = 0 ∨ k = 1 := by simp only [List.length_cons, List.length_nil] at hk; omega
    rcases hk2 with rfl | rfl
    · exact (cell_of_row _ _ 0 _ _ _ p4).trans hu
    · exact (cell_of_row _ _ 1 _ _ _ p4).trans hu
  have hMR := mrows_any (some ⟨w.heap.size + 4, 0, none⟩) 2 [⟨some ⟨w.heap.size + 2, 0, none⟩, 1, [Xb]⟩, ⟨some ⟨w.heap.size + 3, 0, none⟩, 1, [Xa]⟩] (wA w) hR (by
      intro r hr
      simp only [List.mem_cons, List.not_mem_nil, or_false] at hr
      rcases hr with rfl | rfl
      · exact ⟨RowAt.new_one (cells := It.cells) (y := Xb) p2, by simp, by simp [maxLen]⟩
      · exact ⟨RowAt.new_one (cells := It.cells) (y := Xa) p3, by simp, by simp [maxLen]⟩) (by simp) (by simp [lenR, lsR])
  rw [show mrgG (lenR (lsR [⟨some ⟨w.heap.size + 2, 0, none⟩, 1, [Xb]⟩, ⟨some ⟨w.heap.size + 3, 0, none⟩, 1, [Xa]⟩])) (lsR [⟨some ⟨w.heap.size + 2, 0, none⟩, 1, [Xb]⟩, ⟨some ⟨w.heap.size + 3, 0, none⟩, 1, [Xa]⟩]) [] = [Xa, Xb] from rfl] at hMR
  have HMR := hide hMR
  have HP0 := hide p0
  have HP1 := hide p1
  have HPB := hide pb
  clear p0 p1 p2 p3 p4 pb hR hMR
  go_enter Try.func12, Try.ntmps12
  go_wp2_with fail
  refine (Calls.mono HMR.out ?_); rintro e w5 ⟨v, rfl, hs, hb5⟩
  obtain ⟨A, c, rfl, hr, _, _⟩ := hs
  obtain ⟨bb, ob, rfl, hbb, a0, a1, a2, a3, a4⟩ := ItemsAt.item hr (Below.refl _ _) (k := 0) (by simp)
  obtain ⟨bb', ob', e1, _, b0, b1, b2, b3, b4⟩ := ItemsAt.item hr (Below.refl _ _) (k := 1) (by simp)
  obtain ⟨rfl, rfl⟩ : bb = bb' ∧ ob = ob' := by injection e1 with h; injection h; exact ⟨by assumption, by assumption⟩
  simp only [Nat.zero_mul, Nat.add_zero, Nat.one_mul, List.getElem_cons_zero, List.getElem_cons_succ] at a0 a1 a2 a3 a4 b0 b1 b2 b3 b4
  have g0 := (hb5.block w.heap.size (Array.getElem?_eq_some_iff.1 HP0.out).1).trans HP0.out
  have g1 := (hb5.block (w.heap.size + 1) (Array.getElem?_eq_some_iff.1 HP1.out).1).trans HP1.out
  obtain ⟨l0, c0, c1, c2, c3, c4, _⟩ := res5 g0
  obtain ⟨l1, d0, d1, d2, d3, d4, _⟩ := res5 g1
  have HB5 := hide (below_step HPB.out hb5)
  clear e1 hr hb5 g0 g1 HP0 HP1 HPB HMR
  have HK : Hid (∀ W : World, Below w5.heap.size w5 W → W.cell? ⟨bb, ob, none⟩ = some (.int .i64 1) ∧ W.cell? ⟨bb, ob + 1, none⟩ = some (.int .i64 2) ∧ W.cell? ⟨bb, ob + 2, none⟩ = some (.int .u64 0) ∧ W.cell? ⟨bb, ob + 3, none⟩ = some (.int .u64 2) ∧ W.cell? ⟨bb, ob + 4, none⟩ = some (.int .i64 0) ∧ W.cell? ⟨bb, ob + 5, none⟩ = some (.int .i64 2) ∧ W.cell? ⟨bb, ob + 5 + 1, none⟩ = some (.int .i64 2) ∧ W.cell? ⟨bb, ob + 5 + 2, none⟩ = some (.int .u64 0) ∧ W.cell? ⟨bb, ob + 5 + 3, none⟩ = some (.int .u64 2) ∧ W.cell? ⟨bb, ob + 5 + 4, none⟩ = some (.int .i64 0) ∧ W.cell? ⟨w.heap.size, 0, none⟩ = some (.int .i64 1) ∧ W.cell? ⟨w.heap.size, 1, none⟩ = some (.int .i64 2) ∧ W.cell? ⟨w.heap.size, 2, none⟩ = some (.int .u64 0) ∧ W.cell? ⟨w.heap.size, 3, none⟩ = some (.int .u64 2) ∧ W.cell? ⟨w.heap.size, 4, none⟩ = some (.int .i64 0) ∧ W.cell? ⟨w.heap.size + 1, 0, none⟩ = some (.int .i64 2) ∧ W.cell? ⟨w.heap.size + 1, 1, none⟩ = some (.int .i64 2) ∧ W.cell? ⟨w.heap.size + 1, 2, none⟩ = some (.int .u64 0) ∧ W.cell? ⟨w.heap.size + 1, 3, none⟩ = some (.int .u64 2) ∧ W.cell? ⟨w.heap.size + 1, 4, none⟩ = some (.int .i64 0)) := hide fun W hW => by
    refine ⟨?_, ?_, ?_, ?_, ?_, ?_, ?_, ?_, ?_, ?_, ?_, ?_, ?_, ?_, ?_, ?_, ?_, ?_, ?_, ?_⟩
    · exact (hW.cell (p := ⟨_, _, none⟩) hbb).trans a0
    · exact (hW.cell (p := ⟨_, _, none⟩) hbb).trans a1
    · exact (hW.cell (p := ⟨_, _, none⟩) hbb).trans a2
    · exact (hW.cell (p := ⟨_, _, none⟩) hbb).trans a3
    · exact (hW.cell (p := ⟨_, _, none⟩) hbb).trans a4
    · exact (hW.cell (p := ⟨_, _, none⟩) hbb).trans b0
    · exact (hW.cell (p := ⟨_, _, none⟩) hbb).trans b1
    · exact (hW.cell (p := ⟨_, _, none⟩) hbb).trans b2
    · exact (hW.cell (p := ⟨_, _, none⟩) hbb).trans b3
    · exact (hW.cell (p := ⟨_, _, none⟩) hbb).trans b4
    · exact (hW.cell (p := ⟨_, _, none⟩) l0).trans c0
    · exact (hW.cell (p := ⟨_, _, none⟩) l0).trans c1
    · exact (hW.cell (p := ⟨_, _, none⟩) l0).trans c2
    · exact (hW.cell (p := ⟨_, _, none⟩) l0).trans c3
    · exact (hW.cell (p := ⟨_, _, none⟩) l0).trans c4
    · exact (hW.cell (p := ⟨_, _, none⟩) l1).trans d0
    · exact (hW.cell (p := ⟨_, _, none⟩) l1).trans d1
    · exact (hW.cell (p := ⟨_, _, none⟩) l1).trans d2
    · exact (hW.cell (p := ⟨_, _, none⟩) l1).trans d3
    · exact (hW.cell (p := ⟨_, _, none⟩) l1).trans d4
  have hov : ∀ (i j : Nat), (i = w5.heap.size ∧ j = w5.heap.size + 1) ∨ (i = w5.heap.size + 1 ∧ j = w5.heap.size) → ∀ W : World, Below ((w5.alloc (.cells #[.int .i64 1, .int .i64 2, .int .u64 0, .int .u64 2, .int .i64 0] 28)).alloc (.cells #[.int .i64 1, .int .i64 2, .int .u64 0, .int .u64 2, .int .i64 0] 28)).heap.size ((w5.alloc (.cells #[.int .i64 1, .int .i64 2, .int .u64 0, .int .u64 2, .int .i64 0] 28)).alloc (.cells #[.int .i64 1, .int .i64 2, .int .u64 0, .int .u64 2, .int .i64 0] 28)) W → Calls Try.prog 11 #[.slice (some ⟨i, 0, none⟩) 1 1, .slice (some ⟨j, 0, none⟩) 1 1] W fun e w' => e = .returned (.bool true) ∧ Below W.heap.size W w' := by
    intro i j hij W hW
    have h0 : ItemsAt W (some ⟨w5.heap.size, 0, none⟩) [Xa] := (RowAt.below (RowAt.new_one (cells := It.cells) (y := Xa) (heap_alloc_new w5 (.cells #[.int .i64 1, .int .i64 2, .int .u64 0, .int .u64 2, .int .i64 0] 28))) (below_alloc (Below.refl _ _) _)).below hW
    have h1 : ItemsAt W (some ⟨w5.heap.size + 1, 0, none⟩) [Xa] := by
      have := heap_alloc_new (w5.alloc (.cells #[.int .i64 1, .int .i64 2, .int .u64 0, .int .u64 2, .int .i64 0] 28)) (.cells #[.int .i64 1, .int .i64 2, .int .u64 0, .int .u64 2, .int .i64 0] 28)
      simp only [World.size_alloc] at this
      exact (RowAt.new_one (cells := It.cells) (y := Xa) this).below hW
    rcases hij with ⟨rfl, rfl⟩ | ⟨rfl, rfl⟩
    · exact overlap_any _ _ 1 1 [Xa] [Xa] W h0 h1 (by simp) (by simp)
    · exact overlap_any _ _ 1 1 [Xa] [Xa] W h1 h0 (by simp) (by simp)
  have HO1 := hide (hov _ _ (.inl ⟨rfl, rfl⟩))
  have HO2 := hide (hov _ _ (.inr ⟨rfl, rfl⟩))
  clear hov
  obtain ⟨g, hg⟩ : ∃ g, w.heap.size = g := ⟨_, rfl⟩
  obtain ⟨g1, hg1⟩ : ∃ g1, g + 1 = g1 := ⟨_, rfl⟩
  rw [hg, hg1] at HK d0 d1 d2 d3 d4 l1
  rw [hg] at c0 c1 c2 c3 c4 l0
  rw [hg, hg1]
  have hz : Hid (g ≤ w5.heap.size) := hide (by omega)
  clear hg hg1
  go_upto_region 4 with fail
  have HB0 : Hid (Below w5.heap.size w5 w5.drew) := hide (Below.refl _ _).drew
  clear a0 a1 a2 a3 a4 b0 b1 b2 b3 b4 c0 c1 c2 c3 c4 d0 d1 d2 d3 d4
  refine bel_start (by kernel_rfl) ?_
  refine' bel_take (i := 0) (v := _) ?hi0 (by kernel_rfl) (by kernel_rfl) (by kernel_rfl) (Or.inl ⟨?hw0, ?hy0⟩) ?rest0
  case hi0 => (simp only [List.getElem?_toArray, List.getElem?_cons_succ, List.getElem?_cons_zero]; rfl)
  case hw0 => rfl
  case hy0 => (intro w' hw'; go_simp; try with_reducible rfl)
  try simp only [Act.put, List.setIfInBounds_toArray, List.set_cons_zero, List.set_cons_succ]
  refine' bel_take (i := 1) (v := _) ?hi1 (by kernel_rfl) (by kernel_rfl) (by kernel_rfl) (Or.inl ⟨?hw1, ?hy1⟩) ?rest1
  case hi1 => (simp only [List.getElem?_toArray, List.getElem?_cons_succ, List.getElem?_cons_zero]; rfl)
  case hw1 => rfl
  case hy1 => (intro w' hw'; go_simp; try with_reducible rfl)
  try simp only [Act.put, List.setIfInBounds_toArray, List.set_cons_zero, List.set_cons_succ]
  refine' bel_take (i := 2) (v := _) ?hi2 (by kernel_rfl) (by kernel_rfl) (by kernel_rfl) (Or.inl ⟨?hw2, ?hy2⟩) ?rest2
  case hi2 => (simp only [List.getElem?_toArray, List.getElem?_cons_succ, List.getElem?_cons_zero]; rfl)
  case hw2 => rfl
  case hy2 => (intro w' hw'; go_simp; try with_reducible rfl)
  try simp only [Act.put, List.setIfInBounds_toArray, List.set_cons_zero, List.set_cons_succ]
  refine' bel_take (i := 3) (v := _) ?hi3 (by kernel_rfl) (by kernel_rfl) (by kernel_rfl) (Or.inl ⟨?hw3, ?hy3⟩) ?rest3
  case hi3 => (simp only [List.getElem?_toArray, List.getElem?_cons_succ, List.getElem?_cons_zero]; rfl)
  case hw3 => rfl
  case hy3 => (intro w' hw'; go_simp; try with_reducible rfl)
  try simp only [Act.put, List.setIfInBounds_toArray, List.set_cons_zero, List.set_cons_succ]
  refine' bel_take (i := 4) (v := _) ?hi4 (by kernel_rfl) (by kernel_rfl) (by kernel_rfl) (Or.inl ⟨?hw4, ?hy4⟩) ?rest4
  case hi4 => (simp only [List.getElem?_toArray, List.getElem?_cons_succ, List.getElem?_cons_zero]; rfl)
  case hw4 => rfl
  case hy4 => (intro w' hw'; go_simp; try with_reducible rfl)
  try simp only [Act.put, List.setIfInBounds_toArray, List.set_cons_zero, List.set_cons_succ]
  refine' bel_take (i := 5) (v := _) ?hi5 (by kernel_rfl) (by kernel_rfl) (by kernel_rfl) (Or.inl ⟨?hw5, ?hy5⟩) ?rest5
  case hi5 => (simp only [List.getElem?_toArray, List.getElem?_cons_succ, List.getElem?_cons_zero]; rfl)
  case hw5 => rfl
  case hy5 => (intro w' hw'; go_simp; try with_reducible rfl)
  try simp only [Act.put, List.setIfInBounds_toArray, List.set_cons_zero, List.set_cons_succ]
  refine' bel_take (i := 6) (v := _) ?hi6 (by kernel_rfl) (by kernel_rfl) (by kernel_rfl) (Or.inl ⟨?hw6, ?hy6⟩) ?rest6
  case hi6 => (simp only [List.getElem?_toArray, List.getElem?_cons_succ, List.getElem?_cons_zero]; rfl)
  case hw6 => rfl
  case hy6 => (intro w' hw'; obtain ⟨a0, a1, a2, a3, a4, _, _, _, _, _, _, _, _, _, _, _, _, _, _, _⟩ := HK.out w' (below_step HB0.out hw'); go_simp; try with_reducible rfl)
  try simp only [Act.put, List.setIfInBounds_toArray, List.set_cons_zero, List.set_cons_succ]
  refine' bel_take (i := 7) (v := _) ?hi7 (by kernel_rfl) (by kernel_rfl) (by kernel_rfl) (Or.inl ⟨?hw7, ?hy7⟩) ?rest7
  case hi7 => (simp only [List.getElem?_toArray, List.getElem?_cons_succ, List.getElem?_cons_zero]; rfl)
  case hw7 => rfl
  case hy7 => (intro w' hw'; obtain ⟨_, _, _, _, _, _, _, _, _, _, c0, c1, c2, c3, c4, _, _, _, _, _⟩ := HK.out w' (below_step HB0.out hw'); go_simp; try with_reducible rfl)
  try simp only [Act.put, List.setIfInBounds_toArray, List.set_cons_zero, List.set_cons_succ]
  refine' bel_take (i := 8) (v := _) ?hi8 (by kernel_rfl) (by kernel_rfl) (by kernel_rfl) (Or.inl ⟨?hw8, ?hy8⟩) ?rest8
  case hi8 => (simp only [List.getElem?_toArray, List.getElem?_cons_succ, List.getElem?_cons_zero]; rfl)
  case hw8 => rfl
  case hy8 => (intro w' hw'; go_simp; try with_reducible rfl)
  try simp only [Act.put, List.setIfInBounds_toArray, List.set_cons_zero, List.set_cons_succ]
  refine' bel_take (i := 9) (v := _) ?hi9 (by kernel_rfl) (by kernel_rfl) (by kernel_rfl) (Or.inl ⟨?hw9, ?hy9⟩) ?rest9
  case hi9 => (simp only [List.getElem?_toArray, List.getElem?_cons_succ, List.getElem?_cons_zero]; rfl)
  case hw9 => rfl
  case hy9 => (intro w' hw'; go_simp; try with_reducible rfl)
  try simp only [Act.put, List.setIfInBounds_toArray, List.set_cons_zero, List.set_cons_succ]
  refine' bel_take (i := 10) (v := _) ?hi10 (by kernel_rfl) (by kernel_rfl) (by kernel_rfl) (Or.inl ⟨?hw10, ?hy10⟩) ?rest10
  case hi10 => (simp only [List.getElem?_toArray, List.getElem?_cons_succ, List.getElem?_cons_zero]; rfl)
  case hw10 => rfl
  case hy10 => (intro w' hw'; go_simp; try with_reducible rfl)
  try simp only [Act.put, List.setIfInBounds_toArray, List.set_cons_zero, List.set_cons_succ]
  refine' bel_take (i := 11) (v := _) ?hi11 (by kernel_rfl) (by kernel_rfl) (by kernel_rfl) (Or.inl ⟨?hw11, ?hy11⟩) ?rest11
  case hi11 => (simp only [List.getElem?_toArray, List.getElem?_cons_succ, List.getElem?_cons_zero]; rfl)
  case hw11 => rfl
  case hy11 => (intro w' hw'; go_simp; try with_reducible rfl)
  try simp only [Act.put, List.setIfInBounds_toArray, List.set_cons_zero, List.set_cons_succ]
  refine' bel_take (i := 12) (v := _) ?hi12 (by kernel_rfl) (by kernel_rfl) (by kernel_rfl) (Or.inl ⟨?hw12, ?hy12⟩) ?rest12
  case hi12 => (simp only [List.getElem?_toArray, List.getElem?_cons_succ, List.getElem?_cons_zero]; rfl)
  case hw12 => rfl
  case hy12 => (intro w' hw'; go_simp; try with_reducible rfl)
  try simp only [Act.put, List.setIfInBounds_toArray, List.set_cons_zero, List.set_cons_succ]
  refine' bel_take (i := 13) (v := _) ?hi13 (by kernel_rfl) (by kernel_rfl) (by kernel_rfl) (Or.inl ⟨?hw13, ?hy13⟩) ?rest13
  case hi13 => (simp only [List.getElem?_toArray, List.getElem?_cons_succ, List.getElem?_cons_zero]; rfl)
  case hw13 => rfl
  case hy13 => (intro w' hw'; obtain ⟨_, _, _, _, _, b0, b1, b2, b3, b4, _, _, _, _, _, _, _, _, _, _⟩ := HK.out w' (below_step HB0.out hw'); go_simp; try with_reducible rfl)
  try simp only [Act.put, List.setIfInBounds_toArray, List.set_cons_zero, List.set_cons_succ]
  refine' bel_take (i := 14) (v := _) ?hi14 (by kernel_rfl) (by kernel_rfl) (by kernel_rfl) (Or.inl ⟨?hw14, ?hy14⟩) ?rest14
  case hi14 => (simp only [List.getElem?_toArray, List.getElem?_cons_succ, List.getElem?_cons_zero]; rfl)
  case hw14 => rfl
  case hy14 => (intro w' hw'; obtain ⟨_, _, _, _, _, _, _, _, _, _, _, _, _, _, _, d0, d1, d2, d3, d4⟩ := HK.out w' (below_step HB0.out hw'); go_simp; try with_reducible rfl)
  try simp only [Act.put, List.setIfInBounds_toArray, List.set_cons_zero, List.set_cons_succ]
  refine' bel_take (i := 15) (v := _) ?hi15 (by kernel_rfl) (by kernel_rfl) (by kernel_rfl) (Or.inl ⟨?hw15, ?hy15⟩) ?rest15
  case hi15 => (simp only [List.getElem?_toArray, List.getElem?_cons_succ, List.getElem?_cons_zero]; rfl)
  case hw15 => rfl
  case hy15 => (intro w' hw'; go_simp; try with_reducible rfl)
  try simp only [Act.put, List.setIfInBounds_toArray, List.set_cons_zero, List.set_cons_succ]
  refine' bel_take (i := 16) (v := _) ?hi16 (by kernel_rfl) (by kernel_rfl) (by kernel_rfl) (Or.inl ⟨?hw16, ?hy16⟩) ?rest16
  case hi16 => (simp only [List.getElem?_toArray, List.getElem?_cons_succ, List.getElem?_cons_zero]; rfl)
  case hw16 => rfl
  case hy16 => (intro w' hw'; go_simp; try with_reducible rfl)
  try simp only [Act.put, List.setIfInBounds_toArray, List.set_cons_zero, List.set_cons_succ]
  refine' bel_take (i := 17) (v := _) ?hi17 (by kernel_rfl) (by kernel_rfl) (by kernel_rfl) (Or.inl ⟨?hw17, ?hy17⟩) ?rest17
  case hi17 => (simp only [List.getElem?_toArray, List.getElem?_cons_succ, List.getElem?_cons_zero]; rfl)
  case hw17 => rfl
  case hy17 => (intro w' hw'; go_simp; try with_reducible rfl)
  try simp only [Act.put, List.setIfInBounds_toArray, List.set_cons_zero, List.set_cons_succ]
  refine' bel_take (i := 18) (v := _) ?hi18 (by kernel_rfl) (by kernel_rfl) (by kernel_rfl) (Or.inl ⟨?hw18, ?hy18⟩) ?rest18
  case hi18 => (simp only [List.getElem?_toArray, List.getElem?_cons_succ, List.getElem?_cons_zero]; rfl)
  case hw18 => rfl
  case hy18 => (intro w' hw'; obtain ⟨_, _, _, _, _, _, _, _, _, _, c0, c1, c2, c3, c4, _, _, _, _, _⟩ := HK.out w' (below_step HB0.out hw'); go_simp; try with_reducible rfl)
  try simp only [Act.put, List.setIfInBounds_toArray, List.set_cons_zero, List.set_cons_succ]
  refine' bel_take (i := 20) (v := _) ?hi20 (by kernel_rfl) (by kernel_rfl) (by kernel_rfl) (Or.inl ⟨?hw20, ?hy20⟩) ?rest20
  case hi20 => (simp only [List.getElem?_toArray, List.getElem?_cons_succ, List.getElem?_cons_zero]; rfl)
  case hw20 => rfl
  case hy20 => (intro w' hw'; obtain ⟨_, _, _, _, _, _, _, _, _, _, c0, c1, c2, c3, c4, _, _, _, _, _⟩ := HK.out w' (below_step HB0.out hw'); go_simp; try with_reducible rfl)
  try simp only [Act.put, List.setIfInBounds_toArray, List.set_cons_zero, List.set_cons_succ]
  refine wpAnyH_ready (rs := [19, 21]) (by kernel_rfl) (by simp) ?_
  refine' AllReadyH.cons (o := _) ?ho19 (fun K hK => ?step19) (AllReadyH.cons (o := _) ?ho21 (fun K hK => ?step21) AllReadyH.nil)
  case ho19 => (simp only [List.getElem?_toArray, List.getElem?_cons_succ, List.getElem?_cons_zero]; rfl)
  case ho21 => (simp only [List.getElem?_toArray, List.getElem?_cons_succ, List.getElem?_cons_zero]; rfl)
  case step19 =>
    go_simp
    have gAp : Below w5.drew.heap.size w5.drew (w5.drew.alloc (.cells #[.int .i64 1, .int .i64 2, .int .u64 0, .int .u64 2, .int .i64 0] 28)) := below_alloc (Below.refl _ _) _
    refine hK.out _ _ gAp (fun _ => bel_switch gAp ?_)
    clear hK K
    try simp only [Act.put, List.setIfInBounds_toArray, List.set_cons_zero, List.set_cons_succ]
    refine wpAnyH_ready (rs := [21]) (by kernel_rfl) (by simp) ?_
    refine' AllReadyH.cons (o := _) ?ho21p (fun K hK => ?step21p) AllReadyH.nil
    case ho21p => (simp only [List.getElem?_toArray, List.getElem?_cons_succ, List.getElem?_cons_zero]; rfl)
    go_simp
    have gBp : Below (w5.drew.alloc (.cells #[.int .i64 1, .int .i64 2, .int .u64 0, .int .u64 2, .int .i64 0] 28)).heap.size (w5.drew.alloc (.cells #[.int .i64 1, .int .i64 2, .int .u64 0, .int .u64 2, .int .i64 0] 28)) ((w5.drew.alloc (.cells #[.int .i64 1, .int .i64 2, .int .u64 0, .int .u64 2, .int .i64 0] 28)).alloc (.cells #[.int .i64 1, .int .i64 2, .int .u64 0, .int .u64 2, .int .i64 0] 28)) := below_alloc (Below.refl _ _) _
    refine hK.out _ _ gBp (fun _ => bel_switch gBp ?_)
    clear hK K
    try simp only [Act.put, List.setIfInBounds_toArray, List.set_cons_zero, List.set_cons_succ]
    refine wpAnyH_ready (rs := [22]) (by kernel_rfl) (by simp) ?_
    refine' AllReadyH.cons (o := _) ?ho22p (fun K hK => ?step22p) AllReadyH.nil
    case ho22p => (simp only [List.getElem?_toArray, List.getElem?_cons_succ, List.getElem?_cons_zero]; rfl)
    go_simp
    refine (Calls.mono (HO1.out _ (by first | exact Below.refl _ _ | exact (Below.refl _ ((w5.alloc (.cells #[.int .i64 1, .int .i64 2, .int .u64 0, .int .u64 2, .int .i64 0] 28)).alloc (.cells #[.int .i64 1, .int .i64 2, .int .u64 0, .int .u64 2, .int .i64 0] 28))).drew)) ?_); rintro e v1 ⟨rfl, gC⟩
    refine hK.out _ _ gC (fun _ => bel_switch gC ?_)
    clear hK K
    try simp only [Act.put, List.setIfInBounds_toArray, List.set_cons_zero, List.set_cons_succ]
    refine' bel_take (i := 23) (v := _) ?hi23p (by kernel_rfl) (by kernel_rfl) (by kernel_rfl) (Or.inl ⟨?hw23p, ?hy23p⟩) ?rest23p
    case hi23p => (simp only [List.getElem?_toArray, List.getElem?_cons_succ, List.getElem?_cons_zero]; rfl)
    case hw23p => rfl
    case hy23p => (intro w' hw'; go_simp; try with_reducible rfl)
    try simp only [Act.put, List.setIfInBounds_toArray, List.set_cons_zero, List.set_cons_succ]
    refine' bel_take (i := 24) (v := _) ?hi24p (by kernel_rfl) (by kernel_rfl) (by kernel_rfl) (Or.inl ⟨?hw24p, ?hy24p⟩) ?rest24p
    case hi24p => (simp only [List.getElem?_toArray, List.getElem?_cons_succ, List.getElem?_cons_zero]; rfl)
    case hw24p => rfl
    case hy24p => (intro w' hw'; go_simp; try with_reducible rfl)
    try simp only [Act.put, List.setIfInBounds_toArray, List.set_cons_zero, List.set_cons_succ]
    refine wpAnyH_done (by kernel_rfl) ?_ _
    refine NoPanic.normal ?_
    go_wp2_with fail
    go_ret
    exact ⟨rfl, below_step (below_step (below_step (below_step HB5.out HB0.out) gAp) gBp) gC⟩
  case step21 =>
    go_simp
    have gAq : Below w5.drew.heap.size w5.drew (w5.drew.alloc (.cells #[.int .i64 1, .int .i64 2, .int .u64 0, .int .u64 2, .int .i64 0] 28)) := below_alloc (Below.refl _ _) _
    refine hK.out _ _ gAq (fun _ => bel_switch gAq ?_)
    clear hK K
    try simp only [Act.put, List.setIfInBounds_toArray, List.set_cons_zero, List.set_cons_succ]
    refine wpAnyH_ready (rs := [19]) (by kernel_rfl) (by simp) ?_
    refine' AllReadyH.cons (o := _) ?ho19q (fun K hK => ?step19q) AllReadyH.nil
    case ho19q => (simp only [List.getElem?_toArray, List.getElem?_cons_succ, List.getElem?_cons_zero]; rfl)
    go_simp
    have gBq : Below (w5.drew.alloc (.cells #[.int .i64 1, .int .i64 2, .int .u64 0, .int .u64 2, .int .i64 0] 28)).heap.size (w5.drew.alloc (.cells #[.int .i64 1, .int .i64 2, .int .u64 0, .int .u64 2, .int .i64 0] 28)) ((w5.drew.alloc (.cells #[.int .i64 1, .int .i64 2, .int .u64 0, .int .u64 2, .int .i64 0] 28)).alloc (.cells #[.int .i64 1, .int .i64 2, .int .u64 0, .int .u64 2, .int .i64 0] 28)) := below_alloc (Below.refl _ _) _
    refine hK.out _ _ gBq (fun _ => bel_switch gBq ?_)
    clear hK K
    try simp only [Act.put, List.setIfInBounds_toArray, List.set_cons_zero, List.set_cons_succ]
    refine wpAnyH_ready (rs := [22]) (by kernel_rfl) (by simp) ?_
    refine' AllReadyH.cons (o := _) ?ho22q (fun K hK => ?step22q) AllReadyH.nil
    case ho22q => (simp only [List.getElem?_toArray, List.getElem?_cons_succ, List.getElem?_cons_zero]; rfl)
    go_simp
    refine (Calls.mono (HO2.out _ (by first | exact Below.refl _ _ | exact (Below.refl _ ((w5.alloc (.cells #[.int .i64 1, .int .i64 2, .int .u64 0, .int .u64 2, .int .i64 0] 28)).alloc (.cells #[.int .i64 1, .int .i64 2, .int .u64 0, .int .u64 2, .int .i64 0] 28))).drew)) ?_); rintro e v1 ⟨rfl, gC⟩
    refine hK.out _ _ gC (fun _ => bel_switch gC ?_)
    clear hK K
    try simp only [Act.put, List.setIfInBounds_toArray, List.set_cons_zero, List.set_cons_succ]
    refine' bel_take (i := 23) (v := _) ?hi23q (by kernel_rfl) (by kernel_rfl) (by kernel_rfl) (Or.inl ⟨?hw23q, ?hy23q⟩) ?rest23q
    case hi23q => (simp only [List.getElem?_toArray, List.getElem?_cons_succ, List.getElem?_cons_zero]; rfl)
    case hw23q => rfl
    case hy23q => (intro w' hw'; go_simp; try with_reducible rfl)
    try simp only [Act.put, List.setIfInBounds_toArray, List.set_cons_zero, List.set_cons_succ]
    refine' bel_take (i := 24) (v := _) ?hi24q (by kernel_rfl) (by kernel_rfl) (by kernel_rfl) (Or.inl ⟨?hw24q, ?hy24q⟩) ?rest24q
    case hi24q => (simp only [List.getElem?_toArray, List.getElem?_cons_succ, List.getElem?_cons_zero]; rfl)
    case hw24q => rfl
    case hy24q => (intro w' hw'; go_simp; try with_reducible rfl)
    try simp only [Act.put, List.setIfInBounds_toArray, List.set_cons_zero, List.set_cons_succ]
    refine wpAnyH_done (by kernel_rfl) ?_ _
    refine NoPanic.normal ?_
    go_wp2_with fail
    go_ret
    exact ⟨rfl, below_step (below_step (below_step (below_step HB5.out HB0.out) gAq) gBq) gC⟩
end Go.Proofs.Ytfmckinlgaejeaa
