/- clepsydra/num.Take: a contract. Conditions: typed at it. -/
import Derived.Test.YtdhpjeenbejajaaNum
import Derived.Laws.Bits64b
import Derived.Laws.BitsAllLaws
namespace Go.Proofs.Ytdhpjeenbejajaa
set_option linter.unusedVariables false
set_option linter.unusedSimpArgs false
open Go.ChangeShapes Go.WideShapes Go.ChangeAt Go.RowKit

def takeAux : List Int → Nat → Int → Int × Int × Int
  | [], _, _ => (0, 0, 4)
  | c :: L, i, n => if (i = 9 ∧ 1 < c) ∨ (0 < i ∧ c = 0) then (0, 0, 3) else if c < 128 then (n + c % 128 * 128 ^ i, (i : Int) + 1, 0) else takeAux L (i + 1) (n + c % 128 * 128 ^ i)
def takeL (L : List Int) : Int × Int × Int := takeAux L 0 0
theorem takeAux_cons (c : Int) (L : List Int) (i : Nat) (n : Int) : takeAux (c :: L) i n = if (i = 9 ∧ 1 < c) ∨ (0 < i ∧ c = 0) then (0, 0, 3) else if c < 128 then (n + c % 128 * 128 ^ i, (i : Int) + 1, 0) else takeAux L (i + 1) (n + c % 128 * 128 ^ i) := rfl
def tripV (t : Int × Int × Int) : Value := .tuple #[.int .u64 t.1, .int .i64 t.2.1, .int .i64 t.2.2]

theorem and127 {y : Int} (hy : isB y) : IntKind.u64.wrap (bits .and .u8 y 127) = y % 128 := by
  unfold isB at hy
  have h : bits .and .u8 y 127 = y % 128 := by
    rw [u8_and y 127 hy.1 (by omega) (by omega) (by omega)]
    have : y.toNat &&& (127 : Int).toNat = y.toNat % 128 := Nat.and_two_pow_sub_one_eq_mod y.toNat 7
    rw [this]
    omega
  rw [h, IntKind.wrap_u64]
  omega
theorem pow128 (j : Nat) : (2 : Int) ^ (7 * j) = 128 ^ j := by rw [Int.pow_mul]; rfl
theorem pow128n (j : Nat) : ((128 ^ j : Nat) : Int) = 128 ^ j := by simp
theorem stepN_eq {x y : Int} {j : Nat} (hx0 : 0 ≤ x) (hx : x < 128 ^ j) (hy : isB y) (hj : j ≤ 9) (h9 : j = 9 → y ≤ 1) :
    bits .or .u64 x (IntKind.u64.wrap (IntKind.u64.wrap (bits .and .u8 y 127) * 2 ^ (7 * j))) = x + y % 128 * 128 ^ j ∧ 0 ≤ x + y % 128 * 128 ^ j ∧ x + y % 128 * 128 ^ j < 128 ^ (j + 1) ∧ x + y % 128 * 128 ^ j < 18446744073709551616 := by
  have hyb := hy
  unfold isB at hyb
  have hP : (1 : Int) ≤ 128 ^ j := by
    have := Nat.pow_pos (n := j) (show 0 < 128 by omega)
    have h2 := pow128n j
    omega
  obtain ⟨z, hz⟩ : ∃ z : Nat, y % 128 = (z : Int) := ⟨(y % 128).toNat, by omega⟩
  have hz2 : z ≤ 127 := by omega
  obtain ⟨a, ha⟩ : ∃ a : Nat, x = (a : Int) := ⟨x.toNat, by omega⟩
  have hzP : (z : Int) * 128 ^ j ≤ 127 * 128 ^ j := Int.mul_le_mul_of_nonneg_right (by omega) (by omega)
  have hzP0 : 0 ≤ (z : Int) * 128 ^ j := Int.mul_nonneg (by omega) (by omega)
  have hbd : (z : Int) * 128 ^ j ≤ 9223372036854775808 ∧ (128 : Int) ^ j ≤ 9223372036854775808 := by
    have : j = 0 ∨ j = 1 ∨ j = 2 ∨ j = 3 ∨ j = 4 ∨ j = 5 ∨ j = 6 ∨ j = 7 ∨ j = 8 ∨ j = 9 := by omega
    rcases this with rfl | rfl | rfl | rfl | rfl | rfl | rfl | rfl | rfl | rfl <;> (try (have := h9 rfl)) <;> omega
  rw [and127 hy, hz, pow128]
  have hw : IntKind.u64.wrap ((z : Int) * 128 ^ j) = (z : Int) * 128 ^ j := by rw [IntKind.wrap_u64]; omega
  rw [hw]
  have hor : bits .or .u64 x ((z : Int) * 128 ^ j) = x + (z : Int) * 128 ^ j := by
    subst ha
    have e1 : (z : Int) * 128 ^ j = ((z <<< (7 * j) : Nat) : Int) := by
      rw [Nat.shiftLeft_eq, Nat.pow_mul]
      simp
    have hlt : a < 2 ^ (7 * j) := by
      have h1 : ((2 ^ (7 * j) : Nat) : Int) = 128 ^ j := by rw [← pow128]; simp
      omega
    rw [e1, bits_or_u64_nat a _ (by omega) (by omega), Nat.or_comm, ← Nat.shiftLeft_add_eq_or_of_lt hlt]
    omega
  rw [hor]
  refine ⟨rfl, by omega, ?_, by omega⟩
  rw [Int.pow_succ]
  omega

set_option maxHeartbeats 1000000 in
theorem take_any (A : Option Addr) (c : Nat) (L : List Int) (w : World) (hl : L.length ≤ 9223372036854775807) (hL : ValsAt u8v w A L) (hB : ∀ b ∈ L, isB b) :
    Calls Try.prog 28 #[.slice A L.length c] w fun e w' => e = .returned (tripV (takeL L)) ∧ Below w.heap.size w w' := by
  obtain ⟨R, hR⟩ : ∃ R, takeL L = R := ⟨_, rfl⟩
  rw [hR]
  go_enter Try.func28, Try.ntmps28
  go_wp2_with fail
  go_loopw [2, 9] (fun v i wr => ∃ (j : Nat) (x : Int), j ≤ L.length ∧ j ≤ 9 ∧ i = .int .i64 j ∧ v = .int .u64 x ∧ 0 ≤ x ∧ x < 128 ^ j ∧ R = takeAux (L.drop j) j x ∧ Below w.heap.size w wr) (fun _ i _ => L.length - (intOf i).toNat)
  case atStart => exact ⟨0, 0, by omega, by omega, rfl, rfl, by decide, by decide, hR.symm, Below.refl _ _⟩
  case round =>
    obtain ⟨j, x, hj, hj9, rfl, rfl, hx0, hx1, ht, hb⟩ := hrel
    have HT := hide ht
    have HX := hide hx1
    have HB := hide hb
    clear ht hx1
    by_cases hlt : j < L.length
    · obtain ⟨b, off, rfl, hbb, c0⟩ := RowAt.one (val := u8v) hL hb hlt
      have hcb := hB (L[j]'hlt) (List.getElem_mem hlt)
      have hd : L.drop j = (L[j]'hlt) :: L.drop (j + 1) := List.drop_eq_getElem_cons hlt
      rw [hd, takeAux_cons] at HT
      clear hd hb
      generalize (L[j]'hlt) = y at *
      have HY := hide hcb
      unfold isB at hcb
      obtain ⟨hy0, hy1⟩ := hcb
      have hji : (j : Int) < (L.length : Int) := by omega
      have hi0 : (0 : Int) ≤ (j : Int) := by omega
      replace c0 : wr.cell? ⟨b, off + j, none⟩ = some (.int .u8 y) := c0
      by_cases hA : j = 9
      · have d1 : ((j : Int) == 9) = true := by simp; omega
        have hj0 : 0 < j := by omega
        have HA := hide hA
        clear hA
        by_cases hA2 : 1 < y
        · have d2 : decide (1 < y) = true := decide_eq_true hA2
          have ht := HT.out
          rw [if_pos (.inl ⟨HA.out, hA2⟩)] at ht
          have HT2 := hide ht
          clear ht
          go_wp2_with fail
          refine bodyPost_ret (v := tripV (0, 0, 3)) (by simp [results, Try.results28, tripV]) rfl ?_
          exact ⟨by rw [HT2.out], HB.out⟩
        · have d2 : decide (1 < y) = false := decide_eq_false hA2
          have d3 : decide ((0 : Int) < (j : Int)) = true := decide_eq_true (by omega)
          obtain ⟨q1, q2, q3, q4⟩ := stepN_eq hx0 HX.out HY.out hj9 (fun _ => by omega)
          have Q1 := hide q1
          clear q1 q3
          by_cases hA3 : y = 0
          · have d4 : (y == 0) = true := by simp; omega
            have HA3 := hide hA3
            clear hA3
            have ht := HT.out
            rw [if_pos (.inr ⟨hj0, HA3.out⟩)] at ht
            have HT2 := hide ht
            clear ht
            go_wp2_with fail
            refine bodyPost_ret (v := tripV (0, 0, 3)) (by simp [results, Try.results28, tripV]) rfl ?_
            exact ⟨by rw [HT2.out], HB.out⟩
          · have d4 : (y == 0) = false := by simp; omega
            have hs : y < 128 := by omega
            have hnn : ¬ ((j = 9 ∧ 1 < y) ∨ (0 < j ∧ y = 0)) := by omega
            have ht := HT.out
            rw [if_neg hnn, if_pos hs] at ht
            have HT2 := hide ht
            clear ht
            have d5 : decide (y < 128) = true := decide_eq_true hs
            clear hnn
            go_wp2_with fail
            refine bodyPost_ret (v := tripV R) (by rw [HT2.out]; simp [results, Try.results28, tripV, Q1.out]) rfl ?_
            exact ⟨rfl, HB.out⟩
      · have d1 : ((j : Int) == 9) = false := by simp; omega
        have hj8 : j ≤ 8 := by omega
        have HA := hide hA
        clear hA
        obtain ⟨q1, q2, q3, q4⟩ := stepN_eq hx0 HX.out HY.out hj9 (fun h => absurd h HA.out)
        have Q1 := hide q1
        have Q3 := hide q3
        clear q1 q3
        by_cases h0 : j = 0
        · have d3 : decide ((0 : Int) < (j : Int)) = false := decide_eq_false (by omega)
          have d3n : decide (0 < j) = false := decide_eq_false (by omega)
          have d3m : ¬ (0 : Int) < (j : Int) := by omega
          have d3k : ¬ 0 < j := by omega
          have hnn : ¬ ((j = 9 ∧ 1 < y) ∨ (0 < j ∧ y = 0)) := by omega
          clear h0
          by_cases hs : y < 128
          · have ht := HT.out
            rw [if_neg hnn, if_pos hs] at ht
            have HT2 := hide ht
            clear ht
            have d5 : decide (y < 128) = true := decide_eq_true hs
            clear hnn
            go_wp2_with fail
            refine bodyPost_ret (v := tripV R) (by rw [HT2.out]; simp [results, Try.results28, tripV, Q1.out]) rfl ?_
            exact ⟨rfl, HB.out⟩
          · have ht := HT.out
            rw [if_neg hnn, if_neg hs] at ht
            have HT2 := hide ht
            clear ht hnn
            have d5 : decide (y < 128) = false := decide_eq_false hs
            go_wp2_with fail
            refine ⟨⟨j + 1, x + y % 128 * 128 ^ j, by omega, by omega, by go_num, by rw [Q1.out], q2, Q3.out, HT2.out, HB.out⟩, by simp [intOf]; omega⟩
        · have d3 : decide ((0 : Int) < (j : Int)) = true := decide_eq_true (by omega)
          have hj0 : 0 < j := by omega
          by_cases hA3 : y = 0
          · have d4 : (y == 0) = true := by simp; omega
            have HA3 := hide hA3
            clear hA3
            have ht := HT.out
            rw [if_pos (.inr ⟨hj0, HA3.out⟩)] at ht
            have HT2 := hide ht
            clear ht
            go_wp2_with fail
            refine bodyPost_ret (v := tripV (0, 0, 3)) (by simp [results, Try.results28, tripV]) rfl ?_
            exact ⟨by rw [HT2.out], HB.out⟩
          · have d4 : (y == 0) = false := by simp; omega
            have hnn : ¬ ((j = 9 ∧ 1 < y) ∨ (0 < j ∧ y = 0)) := by omega
            by_cases hs : y < 128
            · have ht := HT.out
              rw [if_neg hnn, if_pos hs] at ht
              have HT2 := hide ht
              clear ht
              have d5 : decide (y < 128) = true := decide_eq_true hs
              clear hnn
              go_wp2_with fail
              refine bodyPost_ret (v := tripV R) (by rw [HT2.out]; simp [results, Try.results28, tripV, Q1.out]) rfl ?_
              exact ⟨rfl, HB.out⟩
            · have ht := HT.out
              rw [if_neg hnn, if_neg hs] at ht
              have HT2 := hide ht
              clear ht hnn
              have d5 : decide (y < 128) = false := decide_eq_false hs
              go_wp2_with fail
              refine ⟨⟨j + 1, x + y % 128 * 128 ^ j, by omega, by omega, by go_num, by rw [Q1.out], q2, Q3.out, HT2.out, HB.out⟩, by simp [intOf]; omega⟩
    · have hkn : ¬ (j : Int) < (L.length : Int) := by omega
      have ht := HT.out
      rw [List.drop_of_length_le (by omega)] at ht
      have HT2 := hide ht
      clear ht
      go_wp2_with fail
      refine bodyPost_ret (v := tripV (0, 0, 4)) (by simp [results, Try.results28, tripV]) rfl ?_
      exact ⟨by rw [HT2.out]; rfl, HB.out⟩
end Go.Proofs.Ytdhpjeenbejajaa
