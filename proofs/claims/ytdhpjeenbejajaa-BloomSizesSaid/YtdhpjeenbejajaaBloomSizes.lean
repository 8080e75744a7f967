/- The walk of clepsydralaw10.BloomSizes: it returns true. No condition. -/
import Derived.Test.YtdhpjeenbejajaaRb
import Derived.Test.YtdhpjeenbejajaaBits
namespace Go.Proofs.Ytdhpjeenbejajaa.bloomSizes
set_option linter.unusedVariables false
set_option linter.unusedSimpArgs false
open Go.ChangeShapes Go.WideShapes Go.ChangeAt Go.RowKit

theorem zeros_len (n : Nat) : (zeros n).length = n := by simp [zeros]
set_option maxHeartbeats 1600000 in
theorem walk {w : World} (a0 : Int) (w0 : (Lit.int .i64 a0).wf = true) (a1 : Int) (w1 : (Lit.int .i64 a1).wf = true) :
    Calls Try.prog 5 #[.int .i64 a0, .int .i64 a1] w fun e w' => e = .returned (.bool true) ∧ Below w.heap.size w w' := by
  have hm0 := and_mask_i64 a0 14 16383 (by omega) (by decide)
  have hm1 := and_mask_i64 a1 5 31 (by omega) (by decide)
  obtain ⟨n, hn⟩ : ∃ n : Int, a0 % 2 ^ 14 = n := ⟨_, rfl⟩
  obtain ⟨q, hq⟩ : ∃ q : Int, a1 % 2 ^ 5 = q := ⟨_, rfl⟩
  have hn1 : 0 ≤ n ∧ n ≤ 16383 := by omega
  have hq1 : 0 ≤ q ∧ q ≤ 31 := by omega
  rw [hn] at hm0
  rw [hq] at hm1
  clear hn hq w0 w1
  by_cases hgood : n ≤ 10000 ∧ 1 ≤ q ∧ q ≤ 20
  · obtain ⟨g1, g2, g3⟩ := hgood
    obtain ⟨h1, _⟩ := hn1
    clear hq1
    go_enter Try.func5, Try.ntmps5
    go_wp2_with fail
    refine (Calls.mono (new_yes n q w ⟨h1, g1⟩ ⟨g2, g3⟩) ?_); rintro e w1 ⟨p, g, rfl, hp, hg, hF, hg1⟩
    have HF := hide hF
    have HB1 := hide hg1
    clear hF hg1
    go_wp2_with fail
    refine (Calls.mono (newf_yes n q w1 ⟨h1, g1⟩ ⟨g2, g3⟩) ?_); rintro e w2 ⟨p2, gg2, rfl, hp2, hgg2, hR, hg2⟩
    have HR := hide hR
    have HF2 := hide (HF.out.below hg2)
    have HB2 := hide (below_step HB1.out hg2)
    have hlen := HF.out.len
    have hk1 := HF.out.k1
    rw [zeros_len] at hlen
    have HHA : Hid (hasL (zeros (newS n q)) (placesL (hashL []) (zeros (newS n q)).length (newK q)) = false) := hide (by rw [zeros_len]; exact has_new (by omega) hk1.1)
    have HON : Hid (onesN (zeros (newS n q)) = 0) := hide (onesN_zeros _)
    have HBL : Hid ((bytesL (newK q) (zeros (newS n q))).length ≤ 26000) := hide (by
      have h1 := putL_len (newK q); have h2 := putL_len (newS n q)
      unfold bytesL
      rw [List.length_append, List.length_append, zeros_len]
      omega)
    clear hR hg2 HF HB1 hlen hk1
    generalize zeros (newS n q) = Z at *
    generalize newK q = k at *
    go_wp2_with fail
    refine (Calls.mono (ones_any _ HF2.out) ?_); rintro e w3 ⟨rfl, hg3⟩
    rw [HON.out]
    have HF3 := hide (HF2.out.below hg3)
    have HR3 := hide (HR.out.below hg3)
    have HB3 := hide (below_step HB2.out hg3)
    clear hg3 HF2 HR HB2
    go_wp2_with fail
    refine (Calls.mono (bytes_any _ HF3.out) ?_); rintro e w4 ⟨v4, rfl, ho4, hg4⟩
    obtain ⟨A4, c4, rfl, hr4, _, _⟩ := ho4.vals
    have HF4 := hide (HF3.out.below hg4)
    have HR4 := hide (HR3.out.below hg4)
    have HB4 := hide (below_step HB3.out hg4)
    clear hg4 HF3 HR3 HB3 ho4 hr4
    have HSL : Hid ((strOfNums (bytesL k Z)).size = (bytesL k Z).length) := hide (str_len _)
    go_wp2_with fail
    refine (Calls.mono (rbytes_any _ HR4.out) ?_); rintro e w5 ⟨rfl, hg5⟩
    have HF5 := hide (HF4.out.below hg5)
    have HB5 := hide (below_step HB4.out hg5)
    clear hg5 HF4 HR4 HB4
    generalize strOfNums (bytesL k Z) = S5 at *
    have hs5 := HSL.out
    have hbl := HBL.out
    generalize (bytesL k Z).length = ln at *
    subst hs5
    go_wp2_with fail
    refine (Calls.mono (has_any none 0 [] _ HF5.out (Nat.zero_le _) RowAt.nil_ (by simp)) ?_); rintro e w6 ⟨rfl, hg6⟩
    rw [HHA.out]
    have HB6 := hide (below_step HB5.out hg6)
    clear hg6
    go_wp2_with fail
    refine (Calls.mono (awake_any _) ?_); rintro e w7 ⟨rfl, hg7⟩
    go_wp2_with fail
    go_ret
    exact ⟨rfl, below_step HB6.out hg7⟩
  · have hbad : n < 0 ∨ 10000 < n ∨ q < 1 ∨ 20 < q := by omega
    go_enter Try.func5, Try.ntmps5
    go_wp2_with fail
    refine (Calls.mono (new_no n q w hbad) ?_); rintro e w1 ⟨rfl, hg1⟩
    have HB1 := hide hg1
    clear hg1
    go_wp2_with fail
    refine (Calls.mono (newf_no n q w1 hbad) ?_); rintro e w2 ⟨rfl, hg2⟩
    have HB2 := hide (below_step HB1.out hg2)
    clear hg2
    go_wp2_with fail
    refine (Calls.mono (awake_any _) ?_); rintro e w7 ⟨rfl, hg7⟩
    go_wp2_with fail
    go_ret
    exact ⟨rfl, below_step HB2.out hg7⟩
end Go.Proofs.Ytdhpjeenbejajaa.bloomSizes
