/- The walk of clepsydralaw9.MemHeights: it returns true. Conditions: the arguments are typed. -/
import Derived.Test.YtoejhekmfgkklaaMemO
import Derived.Test.YtoejhekmfgkklaaRKey
namespace Go.Proofs.Ytoejhekmfgkklaa.memHeights
set_option linter.unusedVariables false
set_option linter.unusedSimpArgs false
open Go.ChangeShapes Go.WideShapes Go.ChangeAt Go.RowKit

theorem low48 (a : Int) (h0 : 0 ≤ a) (h1 : a ≤ 18446744073709551615) : ∃ v : Int, bits .and .u64 a 281474976710655 = v ∧ 0 ≤ v ∧ v ≤ 281474976710655 := by
  refine ⟨_, rfl, ?_⟩
  rw [and_mask a 48 281474976710655 (by omega) (by decide) h0 (by omega)]
  omega
theorem itbox {w : World} {g : Nat} {x : It} {t : TypeId} (h : w.heap[g]? = some (.cells x.cells.toArray t (0, 0))) : g < w.heap.size ∧
    w.cell? ⟨g, 0, none⟩ = some (.int .i64 x.s) ∧ w.cell? ⟨g, 1, none⟩ = some (.int .i64 x.k) ∧ w.cell? ⟨g, 2, none⟩ = some (.int .u64 x.t) ∧ w.cell? ⟨g, 3, none⟩ = some (.int .u64 x.v) ∧ w.cell? ⟨g, 4, none⟩ = some (.int .i64 x.x) ∧ ∀ o, w.frozen? ⟨g, o, none⟩ = false :=
  res_box9 h
theorem put_v {w : World} {g : Nat} {x : It} {t : TypeId} (v : Int) (h : w.heap[g]? = some (.cells x.cells.toArray t (0, 0))) : (w.setCell ⟨g, 3, none⟩ (.int .u64 v)).heap[g]? = some (.cells (It.cells ⟨x.s, x.k, x.t, v, x.x⟩).toArray t (0, 0)) := by
  simp [World.setCell, Array.getElem?_modify, h, It.cells]
theorem put_x {w : World} {g : Nat} {x : It} {t : TypeId} (v : Int) (h : w.heap[g]? = some (.cells x.cells.toArray t (0, 0))) : (w.setCell ⟨g, 4, none⟩ (.int .i64 v)).heap[g]? = some (.cells (It.cells ⟨x.s, x.k, x.t, x.v, v⟩).toArray t (0, 0)) := by
  simp [World.setCell, Array.getElem?_modify, h, It.cells]
theorem keep_set {w : World} {g c o : Nat} {u : Value} {ob : Obj} (hne : g ≠ c) (h : w.heap[g]? = some ob) : (w.setCell ⟨c, o, none⟩ u).heap[g]? = some ob := (Below.heap_setCell _ _ _ _ hne).trans h

set_option maxRecDepth 100000 in
set_option maxHeartbeats 1600000 in
theorem walk {w : World} (x : It) (wx : x.wf) (a1 : Int) (w1 : (Lit.int .u64 a1).wf = true) (a2 : Int) (w2 : (Lit.int .i64 a2).wf = true) :
    Calls Try.prog 3 #[.agg x.cells.toArray, .int .u64 a1, .int .i64 a2] w fun e w' => e = .returned (.bool true) ∧ Below w.heap.size w w' := by
  show Calls Try.prog 3 #[x.val, .int .u64 a1, .int .i64 a2] w fun e w' => e = .returned (.bool true) ∧ Below w.heap.size w w'
  have b1 := bounds_u64 w1
  have b2 := bounds_i64 w2
  clear w1 w2
  obtain ⟨v, hv, hv0, hv1⟩ := low48 a1 b1.1 b1.2
  have e3 : IntKind.u64.wrap (v + 1) = v + 1 := by rw [IntKind.wrap_u64]; omega
  have hg0 := heap_alloc_new w (.cells x.cells.toArray 24)
  have hb0 := below_alloc (Below.refl w.heap.size w) (.cells x.cells.toArray 24)
  have HG0 := hide hg0
  have HB0 := hide hb0
  have HOK := hide (fun W => rgood_any x W)
  clear hg0 hb0
  have HWX := hide wx
  clear wx
  cases hgood : goodB x with
  | false =>
    rw [hgood] at HOK
    clear hgood
    go_enter Try.func3, Try.ntmps3
    go_wp2_with fail
    refine (Calls.mono (HOK.out _) ?_); rintro e w1 ⟨rfl, hb⟩
    have HB1 := hide (below_step HB0.out hb)
    clear hb
    go_wp2_with fail
    refine (Calls.mono (awake9_any _) ?_); rintro e w2 ⟨rfl, hb⟩
    have HB2 := hide (below_step HB1.out hb)
    clear hb
    go_wp2_with fail
    go_ret
    exact ⟨rfl, HB2.out⟩
  | true =>
    rw [hgood] at HOK
    clear hgood
    go_enter Try.func3, Try.ntmps3
    go_wp2_with fail
    refine (Calls.mono (HOK.out _) ?_); rintro e w1 ⟨rfl, hb⟩
    have HB1 := hide (below_step HB0.out hb)
    have hg1 := (hb.block w.heap.size (itbox HG0.out).1).trans HG0.out
    have HG1 := hide hg1
    obtain ⟨l0, x0, x1, x2, x3, x4, _⟩ := itbox hg1
    clear hb hg1 HOK
    go_upto_region 7 with fail
    · obtain ⟨wy, hwy⟩ : ∃ wy, w1.alloc (.cells #[.int .i64 x.s, .int .i64 x.k, .int .u64 x.t, .int .u64 (v + 1), .int .i64 a2] 24) = wy := ⟨_, rfl⟩
      have hby : Below w1.heap.size w1 wy := by rw [← hwy]; exact below_alloc (Below.refl _ _) _
      have hgy : wy.heap[w1.heap.size]? = some (.cells (It.cells ⟨x.s, x.k, x.t, v + 1, a2⟩).toArray 24 (0, 0)) := by rw [← hwy]; exact heap_alloc_new w1 _
      try rw [hwy]
      clear hwy x0 x1 x2 x3 x4
      have HBY := hide (below_step HB1.out hby)
      have HGY := hide hgy
      have HGX := hide ((hby.block w.heap.size l0).trans HG1.out)
      have hwfy : (⟨x.s, x.k, x.t, v + 1, a2⟩ : It).wf := by
        have := HWX.out
        unfold It.wf at *
        simp only at *
        omega
      have HH := hide (fun W => height_any x W HWX.out)
      have HH9 := hide (fun W => height9_any x W HWX.out)
      have HHY := hide (fun W => height_any ⟨x.s, x.k, x.t, v + 1, a2⟩ W hwfy)
      rw [show keyL ⟨x.s, x.k, x.t, v + 1, a2⟩ = keyL x from rfl] at HHY
      have hhb := hgt_bd (keyL x)
      generalize hgt (keyL x) = h at *
      obtain ⟨h1, h6⟩ := hhb
      have HCY : Hid (∀ W : World, Below wy.heap.size wy W → W.heap[w1.heap.size]? = some (.cells (It.cells ⟨x.s, x.k, x.t, v + 1, a2⟩).toArray 24 (0, 0))) := hide (fun W hW => (hW.block _ (itbox HGY.out).1).trans HGY.out)
      have HCX : Hid (∀ W : World, Below wy.heap.size wy W → W.heap[w.heap.size]? = some (.cells x.cells.toArray 24 (0, 0))) := hide (fun W hW => (hW.block _ (itbox HGX.out).1).trans HGX.out)
      obtain ⟨_, x0, x1, x2, x3, x4, _⟩ := itbox HGX.out
      clear hgy hby hwfy HGX HGY HG1
      go_wp2_with fail
      refine (Calls.mono (HH.out _) ?_); rintro e w3 ⟨rfl, hb⟩
      have HB3 := hide hb
      clear hb x0 x1 x2 x3 x4
      obtain ⟨_, x0, x1, x2, x3, x4, _⟩ := itbox (HCX.out _ HB3.out)
      go_wp2_with fail
      refine (Calls.mono (HH9.out _) ?_); rintro e w4 ⟨rfl, hb⟩
      have HB4 := hide (below_step HB3.out hb)
      clear hb x0 x1 x2 x3 x4
      obtain ⟨_, x0, x1, x2, x3, x4, _⟩ := itbox (HCY.out _ HB4.out)
      go_wp2_with fail
      refine (Calls.mono (HHY.out _) ?_); rintro e w5 ⟨rfl, hb⟩
      have HB5 := hide (below_step HB4.out hb)
      clear hb x0 x1 x2 x3 x4
      go_wp2_with fail
      refine (Calls.mono (awake9_any _) ?_); rintro e w6 ⟨rfl, hb⟩
      have HB6 := hide (below_step HBY.out (below_step HB5.out hb))
      clear hb
      go_wp2_with fail
      go_ret
      exact ⟨rfl, HB6.out⟩
    · obtain ⟨wy, hwy⟩ : ∃ wy, w1.alloc (.cells #[.int .i64 x.s, .int .i64 x.k, .int .u64 x.t, .int .u64 (v + 1), .int .i64 x.x] 24) = wy := ⟨_, rfl⟩
      have hby : Below w1.heap.size w1 wy := by rw [← hwy]; exact below_alloc (Below.refl _ _) _
      have hgy : wy.heap[w1.heap.size]? = some (.cells (It.cells ⟨x.s, x.k, x.t, v + 1, x.x⟩).toArray 24 (0, 0)) := by rw [← hwy]; exact heap_alloc_new w1 _
      try rw [hwy]
      clear hwy x0 x1 x2 x3 x4
      have HBY := hide (below_step HB1.out hby)
      have HGY := hide hgy
      have HGX := hide ((hby.block w.heap.size l0).trans HG1.out)
      have hwfy : (⟨x.s, x.k, x.t, v + 1, x.x⟩ : It).wf := by
        have := HWX.out
        unfold It.wf at *
        simp only at *
        omega
      have HH := hide (fun W => height_any x W HWX.out)
      have HH9 := hide (fun W => height9_any x W HWX.out)
      have HHY := hide (fun W => height_any ⟨x.s, x.k, x.t, v + 1, x.x⟩ W hwfy)
      rw [show keyL ⟨x.s, x.k, x.t, v + 1, x.x⟩ = keyL x from rfl] at HHY
      have hhb := hgt_bd (keyL x)
      generalize hgt (keyL x) = h at *
      obtain ⟨h1, h6⟩ := hhb
      have HCY : Hid (∀ W : World, Below wy.heap.size wy W → W.heap[w1.heap.size]? = some (.cells (It.cells ⟨x.s, x.k, x.t, v + 1, x.x⟩).toArray 24 (0, 0))) := hide (fun W hW => (hW.block _ (itbox HGY.out).1).trans HGY.out)
      have HCX : Hid (∀ W : World, Below wy.heap.size wy W → W.heap[w.heap.size]? = some (.cells x.cells.toArray 24 (0, 0))) := hide (fun W hW => (hW.block _ (itbox HGX.out).1).trans HGX.out)
      obtain ⟨_, x0, x1, x2, x3, x4, _⟩ := itbox HGX.out
      clear hgy hby hwfy HGX HGY HG1
      go_wp2_with fail
      refine (Calls.mono (HH.out _) ?_); rintro e w3 ⟨rfl, hb⟩
      have HB3 := hide hb
      clear hb x0 x1 x2 x3 x4
      obtain ⟨_, x0, x1, x2, x3, x4, _⟩ := itbox (HCX.out _ HB3.out)
      go_wp2_with fail
      refine (Calls.mono (HH9.out _) ?_); rintro e w4 ⟨rfl, hb⟩
      have HB4 := hide (below_step HB3.out hb)
      clear hb x0 x1 x2 x3 x4
      obtain ⟨_, x0, x1, x2, x3, x4, _⟩ := itbox (HCY.out _ HB4.out)
      go_wp2_with fail
      refine (Calls.mono (HHY.out _) ?_); rintro e w5 ⟨rfl, hb⟩
      have HB5 := hide (below_step HB4.out hb)
      clear hb x0 x1 x2 x3 x4
      go_wp2_with fail
      refine (Calls.mono (awake9_any _) ?_); rintro e w6 ⟨rfl, hb⟩
      have HB6 := hide (below_step HBY.out (below_step HB5.out hb))
      clear hb
      go_wp2_with fail
      go_ret
      exact ⟨rfl, HB6.out⟩
end Go.Proofs.Ytoejhekmfgkklaa.memHeights
