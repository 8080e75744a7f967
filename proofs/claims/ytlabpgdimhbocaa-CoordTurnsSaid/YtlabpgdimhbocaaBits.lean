/- Masks and bits of int64, uint64: plain facts. Conditions typed. -/
import Derived.Test.YtlabpgdimhbocaaLib
namespace Go.Proofs.Ytlabpgdimhbocaa
set_option linter.unusedVariables false
set_option linter.unusedSimpArgs false
open Go.RowKit

theorem and_mask_i64 (a : Int) (k : Nat) (m : Int) (hk : k < 63) (hm : m = 2 ^ k - 1) : bits .and .i64 a m = a % 2 ^ k := by
  have h2 : ((2 : Nat) ^ k) < 2 ^ 63 := Nat.pow_lt_pow_right (by omega) hk
  have h2' : (2 : Nat) ^ k ∣ 2 ^ 64 := Nat.pow_dvd_pow 2 (by omega)
  have hpos : 0 < (2 : Nat) ^ k := Nat.pow_pos (by omega)
  have ec : ((2 ^ k : Nat) : Int) = (2 : Int) ^ k := by simp
  have hm' : m = ((2 ^ k - 1 : Nat) : Int) := by omega
  show IntKind.i64.wrap ((BitVec.ofInt 64 a &&& BitVec.ofInt 64 m).toNat : Int) = _
  have e1 : (BitVec.ofInt 64 m).toNat = 2 ^ k - 1 := by
    rw [hm', BitVec.ofInt_natCast, BitVec.toNat_ofNat]; exact Nat.mod_eq_of_lt (by omega)
  rw [BitVec.toNat_and, e1, Nat.and_two_pow_sub_one_eq_mod, BitVec.toNat_ofInt]
  have e2 : (((a % ((2 ^ 64 : Nat) : Int)).toNat % 2 ^ k : Nat) : Int) = a % 2 ^ k := by
    have hnn : 0 ≤ a % ((2 ^ 64 : Nat) : Int) := Int.emod_nonneg _ (by decide)
    rw [Int.natCast_emod, Int.toNat_of_nonneg hnn, ← ec]
    exact Int.emod_emod_of_dvd a (by exact_mod_cast h2')
  rw [e2, IntKind.wrap_i64]
  have h3 : 0 ≤ a % (2 : Int) ^ k := Int.emod_nonneg _ (by omega)
  have h4 : a % (2 : Int) ^ k < 2 ^ k := Int.emod_lt_of_pos _ (by omega)
  omega

/-- How many of the first n bits are set. -/
def cnt (x : Int) : Nat → Int
  | 0 => 0
  | n + 1 => cnt x n + x / 2 ^ n % 2
theorem cnt_bd (x : Int) : ∀ n : Nat, 0 ≤ cnt x n ∧ cnt x n ≤ n
  | 0 => by simp [cnt]
  | n + 1 => by
    have := cnt_bd x n
    simp only [cnt]
    omega
theorem cnt_two (x y : Int) : ∀ n : Nat, (∀ i < n, ¬ (x / 2 ^ i % 2 = 1 ∧ y / 2 ^ i % 2 = 1)) → cnt x n + cnt y n ≤ n
  | 0, _ => by simp [cnt]
  | n + 1, h => by
    have h1 := cnt_two x y n (fun i hi => h i (by omega))
    have h2 := h n (by omega)
    simp only [cnt]
    omega
theorem and_zero_bits {a b : Int} (ha : 0 ≤ a) (hb : 0 ≤ b) (ha' : a < 18446744073709551616) (hb' : b < 18446744073709551616) (h : bits .and .u64 a b = 0) (i : Nat) : ¬ (a / 2 ^ i % 2 = 1 ∧ b / 2 ^ i % 2 = 1) := by
  rw [u64_and a b ha ha' hb hb'] at h
  have h0 : a.toNat &&& b.toNat = 0 := by omega
  rintro ⟨h1, h2⟩
  have key : ∀ x : Int, 0 ≤ x → x / 2 ^ i % 2 = 1 → x.toNat.testBit i = true := by
    intro x hx h3
    rw [Nat.testBit_eq_decide_div_mod_eq]
    have ec : ((2 ^ i : Nat) : Int) = (2 : Int) ^ i := by simp
    have e : ((x.toNat / 2 ^ i % 2 : Nat) : Int) = x / 2 ^ i % 2 := by
      rw [Int.natCast_emod, Int.natCast_ediv, Int.toNat_of_nonneg hx, ec]; rfl
    have : x.toNat / 2 ^ i % 2 = 1 := by omega
    simp [this]
  have := congrArg (fun n => n.testBit i) h0
  simp [Nat.testBit_and, key a ha h1, key b hb h2] at this
end Go.Proofs.Ytlabpgdimhbocaa
