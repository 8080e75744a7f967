/- What a list tells: plain words, and contracts of state.Tomb, state.Top and of clepsydraref5.Tomb, Top. Condition: the list's length is at most 2^62. -/
import Derived.Test.YtbhfokfdijnhhaaTell
namespace Go.Proofs.Ytbhfokfdijnhhaa
set_option linter.unusedVariables false
set_option linter.unusedSimpArgs false
open Go.ChangeShapes Go.WideShapes Go.ChangeAt Go.RowKit

set_option maxHeartbeats 1600000 in
theorem ptomb_any (A : Option Addr) (c : Nat) (L : List It) (s : Int) (w : World) (hL : ItemsAt w A L) (hn : L.length ≤ 4611686018427387904) :
    Calls Try.prog 29 #[.slice A L.length c, .int .i64 s] w fun e w' => e = .returned (.int .u64 (tombV s L)) ∧ Below w.heap.size w w' := by
  have HL := hide hL
  clear hL
  go_enter Try.func29, Try.ntmps29
  go_wp2_with fail
  go_loopw [9] (fun i wr => ∃ k : Nat, i = .int .i64 k ∧ k ≤ L.length ∧ Below w.heap.size w wr ∧ NoneP (tmP s) L k) (fun i _ => L.length - (intOf i).toNat)
  case atStart => exact ⟨0, rfl, by omega, Below.refl _ _, fun j hj => absurd hj (by omega)⟩
  case round =>
    obtain ⟨k, rfl, hk, hb, hno⟩ := hrel
    have HB := hide hb
    clear hb
    by_cases hlt : k < L.length
    · obtain ⟨bl, off, rfl, hbb, y0, y1, y2, y3, y4⟩ := ItemsAt.item HL.out HB.out hlt
      have hbl : bl < wr.heap.size := Nat.lt_of_lt_of_le hbb HB.out.size
      have HN0 := hide (fun h => noneP_on hlt hno h)
      have HH0 := hide (fun h => find_hit hlt hno h)
      clear hno
      generalize L[k] = y at *
      by_cases hs : y.s = s
      case neg =>
        have HN := hide (HN0.out (decide_eq_false (by omega)))
        have bs : (y.s == s) = false := beq_eq_false_iff_ne.2 hs
        go_wp2_with fail
        go_roundw
        case rel => exact ⟨k + 1, by go_num, by omega, below_alloc HB.out _, HN.out⟩
        case measure => simp [intOf]; omega
      by_cases hk : y.k = 1
      case neg =>
        have HN := hide (HN0.out (decide_eq_false (by omega)))
        have bs : (y.s == s) = true := beq_iff_eq.2 hs
        have bk : (y.k == 1) = false := beq_eq_false_iff_ne.2 hk
        clear hs
        go_wp2_with fail
        go_roundw
        case rel => exact ⟨k + 1, by go_num, by omega, below_alloc HB.out _, HN.out⟩
        case measure => simp [intOf]; omega
      have HY := hide (HH0.out (decide_eq_true ⟨hs, hk⟩))
      have bs : (y.s == s) = true := beq_iff_eq.2 hs
      have bk : (y.k == 1) = true := beq_iff_eq.2 hk
      clear hs
      clear hk
      have HV : Hid (tombV s L = y.v) := hide (by unfold tombV; rw [HY.out])
      go_wp2_with fail
      go_ret
      exact ⟨by rw [HV.out]; rfl, below_alloc HB.out _⟩
    · have HV : Hid (tombV s L = 0) := hide (by unfold tombV; rw [find_miss (by omega) hno])
      go_wp2_with fail
      go_ret
      exact ⟨by rw [HV.out]; rfl, HB.out⟩
set_option maxHeartbeats 1600000 in
theorem rtomb_any (A : Option Addr) (c : Nat) (L : List It) (s : Int) (w : World) (hL : ItemsAt w A L) (hn : L.length ≤ 4611686018427387904) :
    Calls Try.prog 37 #[.slice A L.length c, .int .i64 s] w fun e w' => e = .returned (.int .u64 (tombV s L)) ∧ Below w.heap.size w w' := by
  have HL := hide hL
  clear hL
  go_enter Try.func37, Try.ntmps37
  go_wp2_with fail
  go_loopw [5] (fun i wr => ∃ k : Nat, i = .int .i64 k ∧ k ≤ L.length ∧ Below w.heap.size w wr ∧ NoneP (tmP s) L k) (fun i _ => L.length - (intOf i).toNat)
  case atStart => exact ⟨0, rfl, by omega, Below.refl _ _, fun j hj => absurd hj (by omega)⟩
  case round =>
    obtain ⟨k, rfl, hk, hb, hno⟩ := hrel
    have HB := hide hb
    clear hb
    by_cases hlt : k < L.length
    · obtain ⟨bl, off, rfl, hbb, y0, y1, y2, y3, y4⟩ := ItemsAt.item HL.out HB.out hlt
      have hbl : bl < wr.heap.size := Nat.lt_of_lt_of_le hbb HB.out.size
      have HN0 := hide (fun h => noneP_on hlt hno h)
      have HH0 := hide (fun h => find_hit hlt hno h)
      clear hno
      generalize L[k] = y at *
      by_cases hs : y.s = s
      case neg =>
        have HN := hide (HN0.out (decide_eq_false (by omega)))
        have bs : (y.s == s) = false := beq_eq_false_iff_ne.2 hs
        go_wp2_with fail
        go_roundw
        case rel => exact ⟨k + 1, by go_num, by omega, HB.out, HN.out⟩
        case measure => simp [intOf]; omega
      by_cases hk : y.k = 1
      case neg =>
        have HN := hide (HN0.out (decide_eq_false (by omega)))
        have bs : (y.s == s) = true := beq_iff_eq.2 hs
        have bk : (y.k == 1) = false := beq_eq_false_iff_ne.2 hk
        clear hs
        go_wp2_with fail
        go_roundw
        case rel => exact ⟨k + 1, by go_num, by omega, HB.out, HN.out⟩
        case measure => simp [intOf]; omega
      have HY := hide (HH0.out (decide_eq_true ⟨hs, hk⟩))
      have bs : (y.s == s) = true := beq_iff_eq.2 hs
      have bk : (y.k == 1) = true := beq_iff_eq.2 hk
      clear hs
      clear hk
      have HV : Hid (tombV s L = y.v) := hide (by unfold tombV; rw [HY.out])
      go_wp2_with fail
      go_ret
      exact ⟨by rw [HV.out]; rfl, HB.out⟩
    · have HV : Hid (tombV s L = 0) := hide (by unfold tombV; rw [find_miss (by omega) hno])
      go_wp2_with fail
      go_ret
      exact ⟨by rw [HV.out]; rfl, HB.out⟩
set_option maxHeartbeats 1600000 in
theorem ptop_any (A : Option Addr) (c : Nat) (L : List It) (w : World) (hL : ItemsAt w A L) (hn : L.length ≤ 4611686018427387904) :
    Calls Try.prog 19 #[.slice A L.length c] w fun e w' => e = .returned (.int .u64 (topL L)) ∧ Below w.heap.size w w' := by
  have HL := hide hL
  clear hL
  go_enter Try.func19, Try.ntmps19
  go_wp2_with fail
  go_loopw [3, 8] (fun v i wr => ∃ k : Nat, i = .int .i64 k ∧ k ≤ L.length ∧ Below w.heap.size w wr ∧ v = .int .u64 (topL (L.take k))) (fun _ i _ => L.length - (intOf i).toNat)
  case atStart => exact ⟨0, rfl, by omega, Below.refl _ _, rfl⟩
  case round =>
    obtain ⟨k, rfl, hk, hb, rfl⟩ := hrel
    have HB := hide hb
    clear hb
    by_cases hlt : k < L.length
    · obtain ⟨bl, off, rfl, hbb, y0, y1, y2, y3, y4⟩ := ItemsAt.item HL.out HB.out hlt
      have hbl : bl < wr.heap.size := Nat.lt_of_lt_of_le hbb HB.out.size
      have HT := hide (topL_snoc hlt)
      generalize topL (L.take k) = n at *
      generalize L[k] = y at *
      go_wp2_with fail
      go_roundw
      case rel => exact ⟨k + 1, by go_num, by omega, below_alloc HB.out _, by rw [HT.out, max_if]⟩
      case measure => simp [intOf]; omega
    · obtain rfl : k = L.length := by omega
      go_wp2_with fail
      go_ret
      exact ⟨by rw [List.take_length]; rfl, HB.out⟩
set_option maxHeartbeats 1600000 in
theorem rtop_any (A : Option Addr) (c : Nat) (L : List It) (w : World) (hL : ItemsAt w A L) (hn : L.length ≤ 4611686018427387904) :
    Calls Try.prog 36 #[.slice A L.length c] w fun e w' => e = .returned (.int .u64 (topL L)) ∧ Below w.heap.size w w' := by
  have HL := hide hL
  clear hL
  go_enter Try.func36, Try.ntmps36
  go_wp2_with fail
  go_loopw [3, 4] (fun v i wr => ∃ k : Nat, i = .int .i64 k ∧ k ≤ L.length ∧ Below w.heap.size w wr ∧ v = .int .u64 (topL (L.take k))) (fun _ i _ => L.length - (intOf i).toNat)
  case atStart => exact ⟨0, rfl, by omega, Below.refl _ _, rfl⟩
  case round =>
    obtain ⟨k, rfl, hk, hb, rfl⟩ := hrel
    have HB := hide hb
    clear hb
    by_cases hlt : k < L.length
    · obtain ⟨bl, off, rfl, hbb, y0, y1, y2, y3, y4⟩ := ItemsAt.item HL.out HB.out hlt
      have hbl : bl < wr.heap.size := Nat.lt_of_lt_of_le hbb HB.out.size
      have HT := hide (topL_snoc hlt)
      generalize topL (L.take k) = n at *
      generalize L[k] = y at *
      go_wp2_with fail
      go_roundw
      case rel => exact ⟨k + 1, by go_num, by omega, HB.out, by rw [HT.out, max_if]⟩
      case measure => simp [intOf]; omega
    · obtain rfl : k = L.length := by omega
      go_wp2_with fail
      go_ret
      exact ⟨by rw [List.take_length]; rfl, HB.out⟩
end Go.Proofs.Ytbhfokfdijnhhaa
