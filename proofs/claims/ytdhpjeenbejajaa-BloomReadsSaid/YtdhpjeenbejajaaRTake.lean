/- clepsydraref1.Take: a contract. Conditions: typed at it. -/
import Derived.Test.YtdhpjeenbejajaaTake
import Derived.Test.YtdhpjeenbejajaaRb2
namespace Go.Proofs.Ytdhpjeenbejajaa
set_option linter.unusedVariables false
set_option linter.unusedSimpArgs false
open Go.ChangeShapes Go.WideShapes Go.ChangeAt Go.RowKit

theorem and127w {y : Int} (hy : isB y) : bits .and .u64 y 127 = IntKind.u64.wrap (bits .and .u8 y 127) := by
  rw [and127 hy]
  unfold isB at hy
  have := and_mask y 7 127 (by omega) (by decide) hy.1 (by omega)
  rw [this]
  rfl
set_option maxHeartbeats 1000000 in
theorem rtake_any (L : List Int) (w : World) (hl : L.length ≤ 1099511627776) (hB : ∀ b ∈ L, isB b) :
    Calls Try.prog 30 #[.string (strOfNums L)] w fun e w' => e = .returned (tripV (takeL L)) ∧ Below w.heap.size w w' := by
  obtain ⟨R, hR⟩ : ∃ R, takeL L = R := ⟨_, rfl⟩
  rw [hR]
  have hsz := str_len L
  obtain ⟨S, hS⟩ : ∃ S, strOfNums L = S := ⟨_, rfl⟩
  rw [hS] at hsz
  rw [hS]
  go_enter Try.func30, Try.ntmps30
  go_wp2_with fail
  go_loopw [5, 6] (fun v i wr => ∃ (j : Nat) (x : Int), j ≤ L.length ∧ j ≤ 9 ∧ i = .int .i64 j ∧ v = .int .u64 x ∧ 0 ≤ x ∧ x < 128 ^ j ∧ R = takeAux (L.drop j) j x ∧ Below w.heap.size w wr) (fun _ i _ => 10 - (intOf i).toNat)
  case atStart => exact ⟨0, 0, by omega, by omega, rfl, rfl, by decide, by decide, hR.symm, Below.refl _ _⟩
  case round =>
    obtain ⟨j, x, hj, hj9, rfl, rfl, hx0, hx1, ht, hb⟩ := hrel
    have HT := hide ht
    have HX := hide hx1
    have HB := hide hb
    have hji10 : (j : Int) < 10 := by omega
    clear ht hx1 hb
    by_cases hlt : j < L.length
    · have hd : L.drop j = (L[j]'hlt) :: L.drop (j + 1) := List.drop_eq_getElem_cons hlt
      rw [hd, takeAux_cons] at HT
      have hcb := hB (L[j]'hlt) (List.getElem_mem hlt)
      have hks : j < S.size := by omega
      have h5 := str_at hB hlt (by rw [hS]; exact hks)
      have h5' : ((S[j]'hks).toNat : Int) = L[j]'hlt := by subst hS; exact h5
      clear hd h5
      generalize (L[j]'hlt) = y at *
      have HY := hide hcb
      unfold isB at hcb
      obtain ⟨hy0, hy1⟩ := hcb
      have hji : (j : Int) < (L.length : Int) := by omega
      have hjn : ¬ (L.length : Int) ≤ (j : Int) := by omega
      have hwy : IntKind.u64.wrap y = y := by rw [IntKind.wrap_u64]; omega
      have ha := and127w HY.out
      by_cases hA : j = 9
      · have d1 : ((j : Int) == 9) = true := by simp; omega
        have hj0 : 0 < j := by omega
        have HA := hide hA
        clear hA
        have d3 : decide ((0 : Int) < (j : Int)) = true := decide_eq_true (by omega)
        by_cases hA2 : 1 < y
        · have d2 : decide (1 < y) = true := decide_eq_true hA2
          have ht := HT.out
          rw [if_pos (.inl ⟨HA.out, hA2⟩)] at ht
          have HT2 := hide ht
          clear ht
          go_wp2_with fail
          refine bodyPost_ret (v := tripV (0, 0, 3)) (by simp [results, Try.results30, tripV]) rfl ?_
          exact ⟨by rw [HT2.out], HB.out⟩
        · have d2 : decide (1 < y) = false := decide_eq_false hA2
          have hs : y < 128 := by omega
          have d5 : decide (y < 128) = true := decide_eq_true hs
          obtain ⟨q1, q2, q3, q4⟩ := stepN_eq hx0 HX.out HY.out hj9 (fun _ => by omega)
          have Q1 := hide q1
          clear q1 q3
          by_cases hA3 : y = 0
          · have d4 : (y == 0) = true := by simp; omega
            have HA3 := hide hA3
            clear hA3
            have ht := HT.out
            rw [if_pos (.inr ⟨hj0, HA3.out⟩)] at ht
            have HT2 := hide ht
            clear ht
            go_wp2_with fail
            refine bodyPost_ret (v := tripV (0, 0, 3)) (by simp [results, Try.results30, tripV]) rfl ?_
            exact ⟨by rw [HT2.out], HB.out⟩
          · have d4 : (y == 0) = false := by simp; omega
            have hnn : ¬ ((j = 9 ∧ 1 < y) ∨ (0 < j ∧ y = 0)) := by omega
            have ht := HT.out
            rw [if_neg hnn, if_pos hs] at ht
            have HT2 := hide ht
            clear ht hnn
            go_wp2_with fail
            refine bodyPost_ret (v := tripV R) (by rw [HT2.out]; simp [results, Try.results30, tripV, Q1.out]) rfl ?_
            exact ⟨rfl, HB.out⟩
      · have d1 : ((j : Int) == 9) = false := by simp; omega
        have hj8 : j ≤ 8 := by omega
        have HA := hide hA
        clear hA
        obtain ⟨q1, q2, q3, q4⟩ := stepN_eq hx0 HX.out HY.out hj9 (fun h => absurd h HA.out)
        have Q1 := hide q1
        have Q3 := hide q3
        clear q1 q3
        by_cases hs : y < 128
        · have d5 : decide (y < 128) = true := decide_eq_true hs
          by_cases h0 : j = 0
          · have d3 : decide ((0 : Int) < (j : Int)) = false := decide_eq_false (by omega)
            have d3n : decide (0 < j) = false := decide_eq_false (by omega)
            have d3m : ¬ (0 : Int) < (j : Int) := by omega
            have d3k : ¬ 0 < j := by omega
            clear h0
            have hnn : ¬ ((j = 9 ∧ 1 < y) ∨ (0 < j ∧ y = 0)) := by omega
            have ht := HT.out
            rw [if_neg hnn, if_pos hs] at ht
            have HT2 := hide ht
            clear ht hnn
            go_wp2_with fail
            refine bodyPost_ret (v := tripV R) (by rw [HT2.out]; simp [results, Try.results30, tripV, Q1.out]) rfl ?_
            exact ⟨rfl, HB.out⟩
          · have d3 : decide ((0 : Int) < (j : Int)) = true := decide_eq_true (by omega)
            have hj0 : 0 < j := by omega
            by_cases hA3 : y = 0
            · have d4 : (y == 0) = true := by simp; omega
              have HA3 := hide hA3
              clear hA3
              have ht := HT.out
              rw [if_pos (.inr ⟨hj0, HA3.out⟩)] at ht
              have HT2 := hide ht
              clear ht
              go_wp2_with fail
              refine bodyPost_ret (v := tripV (0, 0, 3)) (by simp [results, Try.results30, tripV]) rfl ?_
              exact ⟨by rw [HT2.out], HB.out⟩
            · have d4 : (y == 0) = false := by simp; omega
              have hnn : ¬ ((j = 9 ∧ 1 < y) ∨ (0 < j ∧ y = 0)) := by omega
              have ht := HT.out
              rw [if_neg hnn, if_pos hs] at ht
              have HT2 := hide ht
              clear ht hnn
              go_wp2_with fail
              refine bodyPost_ret (v := tripV R) (by rw [HT2.out]; simp [results, Try.results30, tripV, Q1.out]) rfl ?_
              exact ⟨rfl, HB.out⟩
        · have d5 : decide (y < 128) = false := decide_eq_false hs
          have hnn : ¬ ((j = 9 ∧ 1 < y) ∨ (0 < j ∧ y = 0)) := by omega
          have ht := HT.out
          rw [if_neg hnn, if_neg hs] at ht
          have HT2 := hide ht
          clear ht hnn
          go_wp2_with fail
          refine ⟨⟨j + 1, x + y % 128 * 128 ^ j, by omega, by omega, by go_num, by rw [Q1.out], q2, Q3.out, HT2.out, HB.out⟩, by simp [intOf]; omega⟩
    · have hji : (L.length : Int) ≤ (j : Int) := by omega
      have ht := HT.out
      rw [List.drop_of_length_le (by omega)] at ht
      have HT2 := hide ht
      clear ht
      go_wp2_with fail
      refine bodyPost_ret (v := tripV (0, 0, 4)) (by simp [results, Try.results30, tripV]) rfl ?_
      exact ⟨by rw [HT2.out]; rfl, HB.out⟩
end Go.Proofs.Ytdhpjeenbejajaa
