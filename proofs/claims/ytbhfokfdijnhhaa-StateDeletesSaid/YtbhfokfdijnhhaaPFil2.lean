/- What is of a list, as the program has it: contracts of state.Range, Upto, Purge. Condition: a list of at most 2^40 items. -/
import Derived.Test.YtbhfokfdijnhhaaPFil
namespace Go.Proofs.Ytbhfokfdijnhhaa
set_option linter.unusedVariables false
set_option linter.unusedSimpArgs false
open Go.ChangeShapes Go.WideShapes Go.ChangeAt Go.RowKit
set_option maxHeartbeats 800000 in
theorem uptoc_any (y : It) (v : Int) (b0 : Nat) (w : World) (h0 : w.heap[b0]? = some (.cells #[.int .u64 v] 29 (0, 0))) :
    Calls Try.prog 50 #[y.val, .pointer (some ⟨b0, 0, none⟩)] w fun e w' => e = .returned (.bool (uptP v y)) ∧ Below w.heap.size w w' := by
  have c0 := box_one h0
  have l0 : b0 < w.heap.size := (Array.getElem?_eq_some_iff.1 h0).1
  clear h0
  by_cases hv : y.v ≤ v
  case pos =>
    have bv : decide (y.v ≤ v) = true := decide_eq_true hv
    have HP : Hid (uptP v y = true) := hide (decide_eq_true (by omega))
    (try clear hs); (try clear hk2); (try clear hk1)
    go_enter Try.func50, Try.ntmps50
    go_wp2_with fail
    go_ret
    exact ⟨by rw [HP.out]; rfl, below_alloc (Below.refl _ _) _⟩
  have bv : decide (y.v ≤ v) = false := decide_eq_false hv
  have HP : Hid (uptP v y = false) := hide (decide_eq_false (by omega))
  (try clear hs); (try clear hk2); (try clear hk1)
  go_enter Try.func50, Try.ntmps50
  go_wp2_with fail
  go_ret
  exact ⟨by rw [HP.out]; rfl, below_alloc (Below.refl _ _) _⟩
set_option maxHeartbeats 800000 in
theorem purgec_any (y : It) (v : Int) (b0 : Nat) (w : World) (h0 : w.heap[b0]? = some (.cells #[.int .u64 v] 29 (0, 0))) :
    Calls Try.prog 51 #[y.val, .pointer (some ⟨b0, 0, none⟩)] w fun e w' => e = .returned (.bool (purP v y)) ∧ Below w.heap.size w w' := by
  have c0 := box_one h0
  have l0 : b0 < w.heap.size := (Array.getElem?_eq_some_iff.1 h0).1
  clear h0
  by_cases hk1 : y.k = 1
  case pos =>
    have bk1 : (y.k != 1) = false := by simp [hk1]
    by_cases hgv : v < y.v
    case pos =>
      have bgv : decide (v < y.v) = true := decide_eq_true hgv
      have HP : Hid (purP v y = true) := hide (decide_eq_true (by omega))
      (try clear hs); (try clear hk2); (try clear hk1)
      go_enter Try.func51, Try.ntmps51
      go_wp2_with fail
      go_ret
      exact ⟨by rw [HP.out]; rfl, below_alloc (Below.refl _ _) _⟩
    have bgv : decide (v < y.v) = false := decide_eq_false hgv
    have HP : Hid (purP v y = false) := hide (decide_eq_false (by omega))
    (try clear hs); (try clear hk2); (try clear hk1)
    go_enter Try.func51, Try.ntmps51
    go_wp2_with fail
    go_ret
    exact ⟨by rw [HP.out]; rfl, below_alloc (Below.refl _ _) _⟩
  have bk1 : (y.k != 1) = true := by rw [bne_iff_ne]; exact hk1
  have HP : Hid (purP v y = true) := hide (decide_eq_true (by omega))
  (try clear hs); (try clear hk2); (try clear hk1)
  go_enter Try.func51, Try.ntmps51
  go_wp2_with fail
  go_ret
  exact ⟨by rw [HP.out]; rfl, below_alloc (Below.refl _ _) _⟩
set_option maxHeartbeats 800000 in
theorem rangec_any (y : It) (s lo hi : Int) (b0 : Nat) (b1 : Nat) (b2 : Nat) (w : World) (h0 : w.heap[b0]? = some (.cells #[.int .i64 s] 3 (0, 0))) (h1 : w.heap[b1]? = some (.cells #[.int .u64 lo] 29 (0, 0))) (h2 : w.heap[b2]? = some (.cells #[.int .u64 hi] 29 (0, 0))) :
    Calls Try.prog 52 #[y.val, .pointer (some ⟨b0, 0, none⟩), .pointer (some ⟨b1, 0, none⟩), .pointer (some ⟨b2, 0, none⟩)] w fun e w' => e = .returned (.bool (ranP s lo hi y)) ∧ Below w.heap.size w w' := by
  have c0 := box_one h0
  have l0 : b0 < w.heap.size := (Array.getElem?_eq_some_iff.1 h0).1
  clear h0
  have c1 := box_one h1
  have l1 : b1 < w.heap.size := (Array.getElem?_eq_some_iff.1 h1).1
  clear h1
  have c2 := box_one h2
  have l2 : b2 < w.heap.size := (Array.getElem?_eq_some_iff.1 h2).1
  clear h2
  by_cases hs : y.s = s
  case pos =>
    have bs : (y.s == s) = true := beq_iff_eq.2 hs
    by_cases hk2 : y.k = 2
    case pos =>
      have bk2 : (y.k == 2) = true := beq_iff_eq.2 hk2
      by_cases hlo : lo ≤ y.t
      case pos =>
        have blo : decide (lo ≤ y.t) = true := decide_eq_true hlo
        by_cases hhi : y.t ≤ hi
        case pos =>
          have bhi : decide (y.t ≤ hi) = true := decide_eq_true hhi
          have HP : Hid (ranP s lo hi y = true) := hide (decide_eq_true (by omega))
          (try clear hs); (try clear hk2); (try clear hk1)
          go_enter Try.func52, Try.ntmps52
          go_wp2_with fail
          go_ret
          exact ⟨by rw [HP.out]; rfl, below_alloc (Below.refl _ _) _⟩
        have bhi : decide (y.t ≤ hi) = false := decide_eq_false hhi
        have HP : Hid (ranP s lo hi y = false) := hide (decide_eq_false (by omega))
        (try clear hs); (try clear hk2); (try clear hk1)
        go_enter Try.func52, Try.ntmps52
        go_wp2_with fail
        go_ret
        exact ⟨by rw [HP.out]; rfl, below_alloc (Below.refl _ _) _⟩
      have blo : decide (lo ≤ y.t) = false := decide_eq_false hlo
      have HP : Hid (ranP s lo hi y = false) := hide (decide_eq_false (by omega))
      (try clear hs); (try clear hk2); (try clear hk1)
      go_enter Try.func52, Try.ntmps52
      go_wp2_with fail
      go_ret
      exact ⟨by rw [HP.out]; rfl, below_alloc (Below.refl _ _) _⟩
    have bk2 : (y.k == 2) = false := beq_eq_false_iff_ne.2 hk2
    have HP : Hid (ranP s lo hi y = false) := hide (decide_eq_false (by omega))
    (try clear hs); (try clear hk2); (try clear hk1)
    go_enter Try.func52, Try.ntmps52
    go_wp2_with fail
    go_ret
    exact ⟨by rw [HP.out]; rfl, below_alloc (Below.refl _ _) _⟩
  have bs : (y.s == s) = false := beq_eq_false_iff_ne.2 hs
  have HP : Hid (ranP s lo hi y = false) := hide (decide_eq_false (by omega))
  (try clear hs); (try clear hk2); (try clear hk1)
  go_enter Try.func52, Try.ntmps52
  go_wp2_with fail
  go_ret
  exact ⟨by rw [HP.out]; rfl, below_alloc (Below.refl _ _) _⟩
theorem pupto_any (A : Option Addr) (c : Nat) (L : List It) (v : Int) (w : World) (hL : ItemsAt w A L) (hn : L.length ≤ 1099511627776) : Calls Try.prog 27 #[.slice A L.length c, .int .u64 v] w (RetOf (L.filter (uptP v)) w) := by
  have hcf : Enters Try.prog 50 := fun args W => by kernel_rfl
  have hb : Below w.heap.size w (w.alloc (.cells #[.int .u64 v] 29)) := below_alloc (Below.refl _ _) _
  have H := hide (only_any 50 #[.pointer (some ⟨w.heap.size, 0, none⟩)] hcf (uptP v) A c L (w.alloc (.cells #[.int .u64 v] 29)) (RowAt.below hL hb) (fun y _ w1 h1 => uptoc_any y v w.heap.size w1 ((h1.block _ (by simp)).trans (heap_alloc_new w _))) hn)
  have HB := hide hb
  clear hL hcf hb
  go_enter Try.func27, Try.ntmps27
  go_wp2_with fail
  refine (Calls.mono H.out ?_); rintro e w1 ⟨v1, rfl, ho1, hg1⟩
  go_wp2_with fail
  go_ret
  exact ⟨_, rfl, ho1.base_ HB.out.size, below_step HB.out hg1⟩
theorem ppurge_any (A : Option Addr) (c : Nat) (L : List It) (v : Int) (w : World) (hL : ItemsAt w A L) (hn : L.length ≤ 1099511627776) : Calls Try.prog 28 #[.slice A L.length c, .int .u64 v] w (RetOf (L.filter (purP v)) w) := by
  have hcf : Enters Try.prog 51 := fun args W => by kernel_rfl
  have hb : Below w.heap.size w (w.alloc (.cells #[.int .u64 v] 29)) := below_alloc (Below.refl _ _) _
  have H := hide (only_any 51 #[.pointer (some ⟨w.heap.size, 0, none⟩)] hcf (purP v) A c L (w.alloc (.cells #[.int .u64 v] 29)) (RowAt.below hL hb) (fun y _ w1 h1 => purgec_any y v w.heap.size w1 ((h1.block _ (by simp)).trans (heap_alloc_new w _))) hn)
  have HB := hide hb
  clear hL hcf hb
  go_enter Try.func28, Try.ntmps28
  go_wp2_with fail
  refine (Calls.mono H.out ?_); rintro e w1 ⟨v1, rfl, ho1, hg1⟩
  go_wp2_with fail
  go_ret
  exact ⟨_, rfl, ho1.base_ HB.out.size, below_step HB.out hg1⟩
theorem prange_any (A : Option Addr) (c : Nat) (L : List It) (s lo hi : Int) (w : World) (hL : ItemsAt w A L) (hn : L.length ≤ 1099511627776) : Calls Try.prog 32 #[.slice A L.length c, .int .i64 s, .int .u64 lo, .int .u64 hi] w (RetOf (L.filter (ranP s lo hi)) w) := by
  have hcf : Enters Try.prog 52 := fun args W => by kernel_rfl
  have hb : Below w.heap.size w (((w.alloc (.cells #[.int .i64 s] 3)).alloc (.cells #[.int .u64 lo] 29)).alloc (.cells #[.int .u64 hi] 29)) := below_alloc (below_alloc (below_alloc (Below.refl _ _) _) _) _
  have H := hide (only_any 52 #[.pointer (some ⟨w.heap.size, 0, none⟩), .pointer (some ⟨w.heap.size + 1, 0, none⟩), .pointer (some ⟨w.heap.size + 2, 0, none⟩)] hcf (ranP s lo hi) A c L (((w.alloc (.cells #[.int .i64 s] 3)).alloc (.cells #[.int .u64 lo] 29)).alloc (.cells #[.int .u64 hi] 29)) (RowAt.below hL hb) (fun y _ w1 h1 => rangec_any y s lo hi w.heap.size (w.heap.size + 1) (w.heap.size + 2) w1
    ((h1.block _ (by simp; omega)).trans ((Below.heap_alloc _ _ _ (by simp; omega)).trans ((Below.heap_alloc _ _ _ (by simp)).trans (heap_alloc_new w _))))
    ((h1.block _ (by simp)).trans ((Below.heap_alloc _ _ _ (by simp)).trans (heap_at (by simp))))
    ((h1.block _ (by simp)).trans (heap_at (by simp)))) hn)
  have HB := hide hb
  clear hL hcf hb
  go_enter Try.func32, Try.ntmps32
  go_wp2_with fail
  refine (Calls.mono H.out ?_); rintro e w1 ⟨v1, rfl, ho1, hg1⟩
  go_wp2_with fail
  go_ret
  exact ⟨_, rfl, ho1.base_ HB.out.size, below_step HB.out hg1⟩
end Go.Proofs.Ytbhfokfdijnhhaa
