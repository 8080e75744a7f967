/- slices.Contains of items and of numbers: contracts. Conditions: the lengths fit an int. -/
import Derived.Test.YtebnifpclebliaaAxH
import Derived.Test.YtebnifpclebliaaOne
namespace Go.Proofs.Ytebnifpclebliaa
set_option linter.unusedVariables false
set_option linter.unusedSimpArgs false
open Go.ChangeShapes Go.WideShapes Go.ChangeAt Go.RowKit

set_option maxHeartbeats 1600000 in
theorem iindex_any (x : It) (A : Option Addr) (c : Nat) (L : List It) (w : World) (hL : ItemsAt w A L) (hl : L.length ≤ 4611686018427387904) :
    Calls Try.prog 52 #[.slice A L.length c, x.val] w fun e w' => e = .returned (.int .i64 (findI (eqI x) L)) ∧ Below w.heap.size w w' := by
  have HL := hide hL
  have HB0 := hide (below_alloc (Below.refl w.heap.size w) (.cells x.cells.toArray 32))
  have HX := hide (ItAt.box (x := x) (t := 32) (fr := (0, 0)) (heap_alloc_new w (.cells x.cells.toArray 32)))
  clear hL
  go_enter Try.func52, Try.ntmps52
  go_wp2_with fail
  go_loopw [5, 8] (fun _ i wr => ∃ k : Nat, k ≤ L.length ∧ i = .int .i64 k ∧ Below w.heap.size w wr ∧ ItAt wr w.heap.size x ∧ ∀ j (hj : j < k) (hj' : j < L.length), eqI x L[j] = false) (fun _ i _ => L.length - (intOf i).toNat)
  case atStart => exact ⟨0, by omega, rfl, HB0.out, HX.out, by intro j hj; omega⟩
  case round =>
    obtain ⟨k, hk, rfl, hb, hx, hp⟩ := hrel
    clear HX HB0
    have HP := hide hp
    have HX := hide hx
    have HB := hide hb
    clear hp
    obtain ⟨hxl, x0, x1, x2, x3, x4⟩ := hx
    by_cases hlt : k < L.length
    · obtain ⟨b, off, rfl, hbb, y0, y1, y2, y3, y4⟩ := ItemsAt.item HL.out hb hlt
      have H1 := hide (fun h => miss_snoc (hk := hlt) HP.out h)
      have H2 := hide (fun h => findI_hit (p := eqI x) hlt HP.out h)
      clear hb
      generalize L[k] = y at *
      have hq := run_eql_item x y
      cases hyz : eqI x y
      all_goals
        rw [hyz] at hq
        go_wp2_with fail
        go_quiet (fail)
        go_wp2_with fail
      · go_roundw
        case rel => exact ⟨k + 1, by omega, by go_num, below_drewN HB.out _, ⟨HX.out.lt, HX.out.c0, HX.out.c1, HX.out.c2, HX.out.c3, HX.out.c4⟩, H1.out hyz⟩
        case measure => simp [intOf]; omega
      · go_ret
        exact ⟨by rw [H2.out hyz]; rfl, below_drewN HB.out _⟩
    · have HM := hide (findI_miss (p := eqI x) (L := L) (fun j hj => HP.out j (by omega) hj))
      go_wp2_with fail
      go_ret
      exact ⟨by rw [HM.out]; rfl, HB.out⟩
set_option maxHeartbeats 400000 in
theorem icontains_sl (x : It) {v : Value} {L : List It} {w : World} (h : Sl w v L) (hl : L.length ≤ 4611686018427387904) : Calls Try.prog 33 #[v, x.val] w fun e w' => e = .returned (.bool (anyI (eqI x) L)) ∧ Below w.heap.size w w' := by
  obtain ⟨A, c, rfl, hL, _, _⟩ := h
  have hb := below_alloc (Below.refl w.heap.size w) (.cells x.cells.toArray 32)
  have HC := hide (iindex_any x A c L _ (RowAt.below hL hb) hl)
  have HE := hide (findI_any (eqI x) L)
  have HB := hide hb
  clear hL hb
  generalize findI (eqI x) L = q at *
  generalize anyI (eqI x) L = r at *
  go_enter Try.func33, Try.ntmps33
  go_wp2_with fail
  refine (Calls.mono HC.out ?_); rintro e w1 ⟨rfl, hg1⟩
  have HB1 := hide (below_step HB.out hg1)
  clear hg1
  go_wp2_with fail
  go_ret
  exact ⟨by rw [← HE.out]; rfl, HB1.out⟩

def hasU (x : Int) (L : List Int) : Bool := L.any fun y => x == y
set_option maxHeartbeats 1600000 in
theorem uindex_any (x : Int) (A : Option Addr) (c : Nat) (L : List Int) (w : World) (hL : ValsAt u64v w A L) (hl : L.length ≤ 4611686018427387904) :
    Calls Try.prog 53 #[.slice A L.length c, .int .u64 x] w fun e w' => (∃ r : Int, e = .returned (.int .i64 r) ∧ decide (0 ≤ r) = hasU x L) ∧ Below w.heap.size w w' := by
  have HL := hide hL
  clear hL
  go_enter Try.func53, Try.ntmps53
  go_wp2_with fail
  go_loopw [5, 8] (fun _ i wr => ∃ k : Nat, k ≤ L.length ∧ i = .int .i64 k ∧ Below w.heap.size w wr ∧ hasU x (L.take k) = false) (fun _ i _ => L.length - (intOf i).toNat)
  case atStart => exact ⟨0, by omega, rfl, Below.refl _ _, rfl⟩
  case round =>
    obtain ⟨k, hk, rfl, hb, hp⟩ := hrel
    have HP := hide hp
    have HB := hide hb
    clear hp
    by_cases hlt : k < L.length
    · obtain ⟨b, off, rfl, hbb, y0⟩ := RowAt.one (val := u64v) HL.out hb hlt
      have H1 : Hid ((x == L[k]) = false → hasU x (L.take (k + 1)) = false) := hide (fun h => by
        have := HP.out
        unfold hasU at *
        rw [List.take_succ_eq_append_getElem hlt, List.any_append, this]
        simp only [List.any_cons, List.any_nil, h]; rfl)
      have H2 : Hid ((x == L[k]) = true → hasU x L = true) := hide (fun h => by
        unfold hasU
        rw [List.any_eq_true]
        exact ⟨_, List.getElem_mem hlt, h⟩)
      clear hb
      generalize L[k] = y at *
      cases hyz : (x == y)
      · go_wp2_with fail
        go_roundw
        case rel => exact ⟨k + 1, by omega, by go_num, HB.out, H1.out hyz⟩
        case measure => simp [intOf]; omega
      · go_wp2_with fail
        go_ret
        exact ⟨⟨k, rfl, by rw [H2.out hyz]; simp⟩, HB.out⟩
    · have HM : Hid (hasU x L = false) := hide (by have := HP.out; rwa [List.take_of_length_le (by omega)] at this)
      go_wp2_with fail
      go_ret
      exact ⟨⟨-1, rfl, by rw [HM.out]; rfl⟩, HB.out⟩
set_option maxHeartbeats 400000 in
theorem ucontains_any (x : Int) (A : Option Addr) (c : Nat) (L : List Int) (w : World) (hL : ValsAt u64v w A L) (hl : L.length ≤ 4611686018427387904) : Calls Try.prog 34 #[.slice A L.length c, .int .u64 x] w fun e w' => e = .returned (.bool (hasU x L)) ∧ Below w.heap.size w w' := by
  have HC := hide (uindex_any x A c L w hL hl)
  clear hL
  generalize hasU x L = r at *
  go_enter Try.func34, Try.ntmps34
  go_wp2_with fail
  refine (Calls.mono HC.out ?_); rintro e w1 ⟨⟨q, rfl, hq⟩, hg1⟩
  have HQ := hide hq
  have HB1 := hide hg1
  clear hg1 hq
  go_wp2_with fail
  go_ret
  exact ⟨by rw [← HQ.out]; rfl, HB1.out⟩
end Go.Proofs.Ytebnifpclebliaa
