/- Messages: the document's SameMsg; msg.Copy: contracts. Conditions: the items readable. -/
import Derived.Test.YtlabpgdimhbocaaGreatMsg
import Derived.Test.YtlabpgdimhbocaaGreatApart
namespace Go.Proofs.YtlabpgdimhbocaaGreat
set_option linter.unusedVariables false
set_option linter.unusedSimpArgs false
open Go.ChangeShapes Go.WideShapes Go.ChangeAt Go.RowKit

set_option maxRecDepth 100000 in
set_option maxHeartbeats 6400000 in
theorem samem_any (a b : Mg) (w : World) (ha : ItemsAt w a.A a.L) (hb : ItemsAt w b.A b.L) (hla : a.L.length ≤ 4611686018427387904) (hlb : b.L.length ≤ 4611686018427387904) :
    Calls Tryz.prog 21 #[a.val, b.val] w fun e w' => e = .returned (.bool (sameMB a b)) ∧ Below w.heap.size w w' := by
  obtain ⟨k, f, t, id, n, A, c, L⟩ := a
  obtain ⟨k', f', t', id', n', A', c', L'⟩ := b
  simp only at ha hb hla hlb
  have hbb := below_alloc (below_alloc (Below.refl w.heap.size w) (.cells #[.int .i64 k, .int .i64 f, .int .i64 t, .int .u64 id, .int .u64 n, .slice A L.length c] 39)) (.cells #[.int .i64 k', .int .i64 f', .int .i64 t', .int .u64 id', .int .u64 n', .slice A' L'.length c'] 39)
  have HEQ := hide (requal_any A A' c c' L L' _ (ha.below hbb) (hb.below hbb) hla hlb)
  have HB := hide hbb
  clear ha hb hla hlb hbb
  by_cases h0 : k = k'
  case neg =>
    have b0 : (k == k') = false := beq_eq_false_iff_ne.2 h0
    have HV : Hid (sameMB ⟨k, f, t, id, n, A, c, L⟩ ⟨k', f', t', id', n', A', c', L'⟩ = false) := hide (by unfold sameMB; simp [h0])
    rw [HV.out]
    go_enter Tryz.func21, Tryz.ntmps21
    go_wp2_with fail
    go_ret
    exact ⟨rfl, HB.out⟩
  subst h0
  by_cases h1 : f = f'
  case neg =>
    have b1 : (f == f') = false := beq_eq_false_iff_ne.2 h1
    have HV : Hid (sameMB ⟨k, f, t, id, n, A, c, L⟩ ⟨k, f', t', id', n', A', c', L'⟩ = false) := hide (by unfold sameMB; simp [h1])
    rw [HV.out]
    go_enter Tryz.func21, Tryz.ntmps21
    go_wp2_with fail
    go_ret
    exact ⟨rfl, HB.out⟩
  subst h1
  by_cases h2 : t = t'
  case neg =>
    have b2 : (t == t') = false := beq_eq_false_iff_ne.2 h2
    have HV : Hid (sameMB ⟨k, f, t, id, n, A, c, L⟩ ⟨k, f, t', id', n', A', c', L'⟩ = false) := hide (by unfold sameMB; simp [h2])
    rw [HV.out]
    go_enter Tryz.func21, Tryz.ntmps21
    go_wp2_with fail
    go_ret
    exact ⟨rfl, HB.out⟩
  subst h2
  by_cases h3 : id = id'
  case neg =>
    have b3 : (id == id') = false := beq_eq_false_iff_ne.2 h3
    have HV : Hid (sameMB ⟨k, f, t, id, n, A, c, L⟩ ⟨k, f, t, id', n', A', c', L'⟩ = false) := hide (by unfold sameMB; simp [h3])
    rw [HV.out]
    go_enter Tryz.func21, Tryz.ntmps21
    go_wp2_with fail
    go_ret
    exact ⟨rfl, HB.out⟩
  subst h3
  by_cases h4 : n = n'
  case neg =>
    have b4 : (n == n') = false := beq_eq_false_iff_ne.2 h4
    have HV : Hid (sameMB ⟨k, f, t, id, n, A, c, L⟩ ⟨k, f, t, id, n', A', c', L'⟩ = false) := hide (by unfold sameMB; simp [h4])
    rw [HV.out]
    go_enter Tryz.func21, Tryz.ntmps21
    go_wp2_with fail
    go_ret
    exact ⟨rfl, HB.out⟩
  subst h4
  generalize hq : eqL L L' = q at HEQ
  have HV : Hid (sameMB ⟨k, f, t, id, n, A, c, L⟩ ⟨k, f, t, id, n, A', c', L'⟩ = q) := hide (by unfold sameMB; simp [hq])
  rw [HV.out]
  go_enter Tryz.func21, Tryz.ntmps21
  go_wp2_with (go_at_call 31; refine (Calls.mono HEQ.out ?_); rintro e w2 ⟨rfl, hb2⟩; have HB2 := hide (below_step HB.out hb2); clear hb2)
  go_ret
  exact ⟨rfl, HB2.out⟩
theorem put6m {w : World} {g : Nat} {a0 a1 a2 a3 a4 a5 : Value} {t : TypeId} (v0 v1 v2 v3 v4 v5 : Value) (h : w.heap[g]? = some (.cells #[a0, a1, a2, a3, a4, a5] t (0, 0))) :
    ((((((w.setCell ⟨g, 0, none⟩ v0).setCell ⟨g, 1, none⟩ v1).setCell ⟨g, 2, none⟩ v2).setCell ⟨g, 3, none⟩ v3).setCell ⟨g, 4, none⟩ v4).setCell ⟨g, 5, none⟩ v5).heap[g]? = some (.cells #[v0, v1, v2, v3, v4, v5] t (0, 0)) := by
  simp [World.setCell, Array.getElem?_modify, h]
set_option maxRecDepth 100000 in
set_option maxHeartbeats 1600000 in
theorem mcopy_any (m : Mg) (w : World) (hm : m.rd w) (hl : m.L.length ≤ 1099511627776) :
    Calls Tryz.prog 30 #[m.val] w fun e w' => ∃ A' c', e = .returned (Mg.val { m with A := A', c := c' }) ∧ Ow w.heap.size w' (.slice A' m.L.length c') m.L ∧ Below w.heap.size w w' := by
  obtain ⟨k, f, t, id, n, A, c, L⟩ := m
  obtain ⟨hI, hc1, hc2⟩ := hm
  simp only at hI hc1 hc2 hl
  have hb := below_alloc (below_alloc (Below.refl w.heap.size w) (.cells #[.int .i64 k, .int .i64 f, .int .i64 t, .int .u64 id, .int .u64 n, .slice A L.length c] 39)) (.cells #[.int .i64 0, .int .i64 0, .int .i64 0, .int .u64 0, .int .u64 0, .slice none 0 0] 39)
  have hg0 := heap_alloc_new w (.cells #[.int .i64 k, .int .i64 f, .int .i64 t, .int .u64 id, .int .u64 n, .slice A L.length c] 39)
  have hg1 := (Below.heap_alloc (w.alloc (.cells #[.int .i64 k, .int .i64 f, .int .i64 t, .int .u64 id, .int .u64 n, .slice A L.length c] 39)) (.cells #[.int .i64 0, .int .i64 0, .int .i64 0, .int .u64 0, .int .u64 0, .slice none 0 0] 39) w.heap.size (by simp)).trans hg0
  have hg2 := heap_alloc_new (w.alloc (.cells #[.int .i64 k, .int .i64 f, .int .i64 t, .int .u64 id, .int .u64 n, .slice A L.length c] 39)) (.cells #[.int .i64 0, .int .i64 0, .int .i64 0, .int .u64 0, .int .u64 0, .slice none 0 0] 39)
  rw [show (w.alloc (.cells #[.int .i64 k, .int .i64 f, .int .i64 t, .int .u64 id, .int .u64 n, .slice A L.length c] 39)).heap.size = w.heap.size + 1 by simp] at hg2
  obtain ⟨wx, hwx⟩ : ∃ wx, (w.alloc (.cells #[.int .i64 k, .int .i64 f, .int .i64 t, .int .u64 id, .int .u64 n, .slice A L.length c] 39)).alloc (.cells #[.int .i64 0, .int .i64 0, .int .i64 0, .int .u64 0, .int .u64 0, .slice none 0 0] 39) = wx := ⟨_, rfl⟩
  rw [hwx] at hb hg1 hg2
  have hbs := hb.size
  have HL := hide (hI.below hb)
  have HB := hide hb
  have HG1 := hide hg1
  have HG2 := hide hg2
  obtain ⟨x0, x1, x2, x3, x4, x5⟩ := six_cells hg1
  have xl := (Array.getElem?_eq_some_iff.1 hg1).1
  clear hI hb hg0 hg1 hg2
  go_enter Tryz.func30, Tryz.ntmps30
  go_upto_region 1 with fail
  try rw [hwx]
  clear hwx
  go_wp2_with (at_builtin; refine wpList_append_items rfl (.const (.slice none 0 0)) (.tmp 4) rfl w.heap.size wx.heap.size w wx (.slice none 0 0) [] A L.length c L rfl rfl rfl HL.out (Ow.nil_ _ _) HB.out hbs (Nat.le_refl _) (by simp only [List.length_nil]; omega) ?_; intro v1 w1 ho1 hb1 hgr1; obtain ⟨A1, c1, rfl, hr1, hlo1, hc3, hc4⟩ := OwnL.row It.cells_len ho1; have HO1 := hide ho1; have hk1 := (hgr1.block w.heap.size xl (by simp [Value.ownBlock])).trans HG1.out; have hk2 := (hgr1.block (w.heap.size + 1) (Array.getElem?_eq_some_iff.1 HG2.out).1 (by simp [Value.ownBlock])).trans HG2.out; have HK1 := hide hk1; have HK2 := hide hk2; have HB1 := hide hb1; have HGR := hide hgr1.size; obtain ⟨y0, y1, y2, y3, y4, y5⟩ := six_cells hk1; obtain ⟨z0, z1, z2, z3, z4, z5⟩ := six_cells hk2; have yf : ∀ o, w1.frozen? ⟨w.heap.size, o, none⟩ = false := (fun o => by simp [World.frozen?, hk1]); have zf : ∀ o, w1.frozen? ⟨w.heap.size + 1, o, none⟩ = false := (fun o => by simp [World.frozen?, hk2]); clear ho1 hb1 hgr1 hk1 hk2 hr1 hlo1 x0 x1 x2 x3 x4 x5)
  have hm1 : ((((((w1.setCell ⟨w.heap.size, 5, none⟩ (.slice A1 L.length c1)).setCell ⟨w.heap.size + 1, 0, none⟩ (.int .i64 k)).setCell ⟨w.heap.size + 1, 1, none⟩ (.int .i64 f)).setCell ⟨w.heap.size + 1, 2, none⟩ (.int .i64 t)).setCell ⟨w.heap.size + 1, 3, none⟩ (.int .u64 id)).setCell ⟨w.heap.size + 1, 4, none⟩ (.int .u64 n)).setCell ⟨w.heap.size + 1, 5, none⟩ (.slice A1 L.length c1) |>.heap[w.heap.size + 1]? = some (.cells #[.int .i64 k, .int .i64 f, .int .i64 t, .int .u64 id, .int .u64 n, .slice A1 L.length c1] 39 (0, 0)) :=
    put6m _ _ _ _ _ _ ((Below.heap_setCell w1 ⟨w.heap.size, 5, none⟩ (.slice A1 L.length c1) (w.heap.size + 1) (by simp)).trans HK2.out)
  obtain ⟨r0, r1, r2, r3, r4, r5⟩ := six_cells hm1
  have hne : ∀ j, j ≤ w.heap.size + 1 → (Value.slice A1 L.length c1).ownBlock ≠ some j := fun j hj e => by
    have h1 := (OwnL.lt HO1.out _ e).1
    have h2 := (Array.getElem?_eq_some_iff.1 HG2.out).1
    omega
  have hof := (((((((OwnL.setFar HO1.out (hne w.heap.size (by omega)) (o := 5) (.slice A1 L.length c1)).setFar (hne (w.heap.size + 1) (by omega)) (o := 0) (.int .i64 k)).setFar (hne (w.heap.size + 1) (by omega)) (o := 1) (.int .i64 f)).setFar (hne (w.heap.size + 1) (by omega)) (o := 2) (.int .i64 t)).setFar (hne (w.heap.size + 1) (by omega)) (o := 3) (.int .u64 id)).setFar (hne (w.heap.size + 1) (by omega)) (o := 4) (.int .u64 n)).setFar (hne (w.heap.size + 1) (by omega)) (o := 5) (.slice A1 L.length c1)).base_ hbs
  have hbf := ((((((HB1.out.setCell (p := ⟨w.heap.size, 5, none⟩) (Nat.le_refl _) (.slice A1 L.length c1)).setCell (p := ⟨w.heap.size + 1, 0, none⟩) (Nat.le_succ _) (.int .i64 k)).setCell (p := ⟨w.heap.size + 1, 1, none⟩) (Nat.le_succ _) (.int .i64 f)).setCell (p := ⟨w.heap.size + 1, 2, none⟩) (Nat.le_succ _) (.int .i64 t)).setCell (p := ⟨w.heap.size + 1, 3, none⟩) (Nat.le_succ _) (.int .u64 id)).setCell (p := ⟨w.heap.size + 1, 4, none⟩) (Nat.le_succ _) (.int .u64 n)).setCell (p := ⟨w.heap.size + 1, 5, none⟩) (Nat.le_succ _) (.slice A1 L.length c1)
  refine bodyPost_ret (v := Mg.val ⟨k, f, t, id, n, A1, c1, L⟩) (by simp [results, Tryz.results30, go_sem, r0, r1, r2, r3, r4, r5]) rfl ?_
  exact ⟨A1, c1, rfl, hof, hbf⟩
end Go.Proofs.YtlabpgdimhbocaaGreat
