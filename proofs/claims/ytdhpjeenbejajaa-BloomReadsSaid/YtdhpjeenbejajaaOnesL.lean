/- clepsydralaw10.ones: a contract. Conditions: typed at it. -/
import Derived.Test.YtdhpjeenbejajaaBlmLaw
namespace Go.Proofs.Ytdhpjeenbejajaa
set_option linter.unusedVariables false
set_option linter.unusedSimpArgs false
open Go.ChangeShapes Go.WideShapes Go.ChangeAt Go.RowKit

def bitI (b : Int) (i : Nat) : Int := bits .and .u8 (b / 2 ^ i) 1
def popK (b : Int) : Nat → Int
  | 0 => 0
  | k + 1 => popK b k + bitI b k
theorem popK8' : ∀ b : Fin 256, popK (b.val : Int) 8 = (Lib.onesCount b.val : Int) := by decide +kernel
theorem popK8 {b : Int} (h : isB b) : popK b 8 = (pop b : Int) := by
  unfold isB at h
  have := popK8' ⟨b.toNat, by omega⟩
  simp only [Int.toNat_of_nonneg h.1] at this
  exact this
theorem bitI_bd {b : Int} (h : isB b) (i : Nat) : 0 ≤ bitI b i ∧ bitI b i ≤ 1 := by
  unfold isB at h
  have h1 : 0 ≤ b / 2 ^ i := Int.ediv_nonneg h.1 (Int.pow_nonneg (by decide))
  have h2 : b / 2 ^ i ≤ b := Int.ediv_le_self _ h.1
  unfold bitI
  rw [u8_and _ 1 h1 (by omega) (by decide) (by decide)]
  have : (b / 2 ^ i).toNat &&& (1 : Int).toNat = (b / 2 ^ i).toNat % 2 := Nat.and_two_pow_sub_one_eq_mod _ 1
  rw [this]
  omega
theorem popK_bd {b : Int} (h : isB b) (k : Nat) : 0 ≤ popK b k ∧ popK b k ≤ k := by
  induction k with
  | zero => simp [popK]
  | succ k ih => have := bitI_bd h k; simp only [popK]; omega

set_option maxHeartbeats 1000000 in
theorem onesl_any (A : Option Addr) (c : Nat) (B : List Int) (w : World) (hln : B.length ≤ 100000) (hr : ValsAt u8v w A B) (hbt : ∀ b ∈ B, isB b) :
    Calls Try.prog 19 #[.slice A B.length c] w fun e w' => e = .returned (.int .i64 (onesN B)) ∧ Below w.heap.size w w' := by
  go_enter Try.func19, Try.ntmps19
  go_wp2_with fail
  go_loopw [3, 4] (fun v i wr => ∃ j : Nat, j ≤ B.length ∧ i = .int .i64 j ∧ v = .int .i64 (onesN (B.take j)) ∧ Below w.heap.size w wr) (fun _ i _ => B.length - (intOf i).toNat)
  case atStart => exact ⟨0, by omega, rfl, rfl, Below.refl _ _⟩
  case round =>
    obtain ⟨j, hj, rfl, rfl, hb⟩ := hrel
    have HB := hide hb
    by_cases hlt : j < B.length
    · obtain ⟨b, off, rfl, hbb, c0⟩ := RowAt.one (val := u8v) hr (Below.refl _ _) hlt
      have hx := hbt (B[j]'hlt) (List.getElem_mem hlt)
      have h2 := onesN_snoc (B.take j) (B[j]'hlt)
      rw [← take_snoc hlt] at h2
      have h3 := onesN_le (B := B.take j) (fun b hb => hbt b (List.mem_of_mem_take hb))
      have h4 : (B.take j).length = j := by rw [List.length_take]; omega
      rw [h4] at h3
      have hji : (j : Int) < (B.length : Int) := by omega
      clear h4 hb
      generalize (B[j]'hlt) = x at *
      have H2 := hide h2
      clear h2
      have HX := hide hx
      unfold isB at hx
      obtain ⟨hx0, hx1⟩ := hx
      have HY : Hid (∀ W : World, Below w.heap.size w W → W.cell? ⟨b, off + j, none⟩ = some (.int .u8 x)) := hide (fun W hW => (hW.cell (p := ⟨b, _, none⟩) hbb).trans c0)
      clear c0
      generalize onesN (B.take j) = n at *
      go_wp2_with fail
      go_loopw [3, 5] (fun v k wr => ∃ m : Nat, m ≤ 8 ∧ k = .int .i64 m ∧ v = .int .i64 (n + popK x m) ∧ Below w.heap.size w wr) (fun _ k _ => 8 - (intOf k).toNat)
      case atStart => exact ⟨0, by omega, rfl, by simp [popK], HB.out⟩
      case round =>
        clear HB
        obtain ⟨m, hm, rfl, rfl, hb⟩ := hrel
        have HB := hide hb
        by_cases hm8 : m < 8
        · have hmi : (m : Int) < 8 := by omega
          have y0 := HY.out _ hb
          obtain ⟨z, hz⟩ : ∃ z, bits .and .u8 (x / 2 ^ m) 1 = z := ⟨_, rfl⟩
          have hz2 := bitI_bd HX.out m
          have hz3 : bitI x m = z := hz
          rw [hz3] at hz2
          obtain ⟨hz0, hz1⟩ := hz2
          obtain ⟨y, hy⟩ : ∃ y, popK x m = y := ⟨_, rfl⟩
          have hpb := popK_bd HX.out m
          rw [hy] at hpb
          obtain ⟨hp0, hp1⟩ := hpb
          rw [hy]
          have HS : Hid (popK x (m + 1) = y + z) := hide (by simp only [popK, hz3, hy])
          clear hb hz3 hy
          go_wp2_with fail
          exact ⟨⟨m + 1, by omega, by go_num, by rw [HS.out, ← Int.add_assoc], HB.out⟩, by simp [intOf]; omega⟩
        · obtain rfl : m = 8 := by omega
          have hmi : ¬ ((8 : Nat) : Int) < 8 := by omega
          rw [popK8 HX.out]
          clear hb
          go_wp2_with fail
          exact ⟨⟨j + 1, by omega, by go_num, by rw [H2.out]; go_num, HB.out⟩, by simp [intOf]; omega⟩
    · have ht : B.take j = B := List.take_of_length_le (by omega)
      rw [ht]
      have hkn : ¬ (j : Int) < (B.length : Int) := by omega
      go_wp2_with fail
      go_ret
      exact ⟨rfl, hb⟩
end Go.Proofs.Ytdhpjeenbejajaa
