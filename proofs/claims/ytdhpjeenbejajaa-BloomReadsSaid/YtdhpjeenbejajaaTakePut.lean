/- What Put wrote Take reads; a filter's bytes are read as that filter. Plain facts. -/
import Derived.Test.YtdhpjeenbejajaaRead
namespace Go.Proofs.Ytdhpjeenbejajaa
set_option linter.unusedVariables false
set_option linter.unusedSimpArgs false
open Go.ChangeShapes Go.WideShapes Go.ChangeAt Go.RowKit

theorem or128' : ∀ b : Fin 256, bits .or .u8 (b.val : Int) 128 = (b.val : Int) % 128 + 128 := by decide +kernel
theorem or128 (x : Int) : bits .or .u8 (x % 256) 128 = x % 128 + 128 := by
  have h := or128' ⟨(x % 256).toNat, by omega⟩
  simp only [Int.toNat_of_nonneg (show 0 ≤ x % 256 by omega)] at h
  rw [h]
  omega
theorem take_put : ∀ (m f : Nat) (x : Int) (i : Nat) (n : Int) (rest : List Int), x < 128 ^ (m + 1) → 0 ≤ x → m ≤ f → i + m ≤ 8 → (0 < i → 0 < x) →
    takeAux (putAux (f + 1) x ++ rest) i n = (n + x * 128 ^ i, (i : Int) + (putAux (f + 1) x).length, 0)
  | m, f, x, i, n, rest, hx, h0, hf, hi, hp => by
    by_cases h128 : x < 128
    · rw [putAux, if_pos h128, List.singleton_append, takeAux_cons, if_neg (by omega), if_pos h128]
      simp only [List.length_singleton]
      rw [show x % 128 = x by omega]
      rfl
    · match m, f, hx, hf, hi with
      | 0, _, hx, _, _ => simp at hx; omega
      | m + 1, 0, _, hf, _ => omega
      | m + 1, f + 1, hx, hf, hi =>
        have hx2 : x / 128 < 128 ^ (m + 1) := by
          apply Int.ediv_lt_of_lt_mul (by decide)
          rw [← Int.pow_succ]
          exact hx
        have ih := take_put m f (x / 128) (i + 1) (n + x % 128 * 128 ^ i) rest hx2 (by omega) (by omega) (by omega) (fun _ => by omega)
        rw [putAux, if_neg h128, or128, List.cons_append, takeAux_cons, if_neg (by omega), if_neg (by omega), show (x % 128 + 128) % 128 = x % 128 by omega, ih]
        have e : n + x % 128 * 128 ^ i + x / 128 * 128 ^ (i + 1) = n + x * 128 ^ i := by
          have h1 : x = x % 128 + x / 128 * 128 := by omega
          have h2 : x * 128 ^ i = x % 128 * 128 ^ i + x / 128 * 128 * 128 ^ i := by
            rw [← Int.add_mul, ← h1]
          rw [h2, Int.pow_succ, Int.mul_assoc, Int.mul_comm (128 : Int) (128 ^ i), Int.add_assoc]
        rw [e, List.length_cons]
        refine Prod.ext rfl (Prod.ext ?_ rfl)
        show ((i + 1 : Nat) : Int) + _ = (i : Int) + ((_ + 1 : Nat) : Int)
        omega
theorem takeL_put {x : Int} (rest : List Int) (h0 : 0 ≤ x) (hx : x ≤ 25000) : takeL (putL x ++ rest) = (x, ((putL x).length : Int), 0) := by
  have h := take_put 2 10 x 0 0 rest (Int.lt_of_le_of_lt hx (by decide)) h0 (by omega) (by omega) (by omega)
  unfold takeL putL
  rw [h]
  simp
theorem read_bytes {k : Nat} {B : List Int} (hk : 1 ≤ k ∧ k ≤ 14) (hB : 8 ≤ B.length ∧ B.length ≤ 25000) : readE (bytesL k B) = 0 ∧ rdR (bytesL k B) = B ∧ (takeL (bytesL k B)).1 = (k : Int) := by
  have h1 : takeL (bytesL k B) = ((k : Int), ((putL k).length : Int), 0) := by unfold bytesL; rw [List.append_assoc]; exact takeL_put _ (by omega) (by omega)
  have h2 : rdB (bytesL k B) = ((B.length : Int), ((putL B.length).length : Int), 0) := by
    unfold rdB
    rw [h1]
    have e : (bytesL k B).drop ((putL (k : Int)).length : Int).toNat = putL B.length ++ B := by
      unfold bytesL
      rw [List.append_assoc, Int.toNat_natCast, List.drop_left]
    dsimp only
    rw [e]
    exact takeL_put _ (by omega) (by omega)
  have h3 : rdR (bytesL k B) = B := by
    unfold rdR
    rw [h2, h1]
    dsimp only
    unfold bytesL
    rw [Int.toNat_natCast, Int.toNat_natCast, ← List.length_append, List.drop_left]
  refine ⟨?_, h3, by rw [h1]⟩
  unfold readE
  rw [h3, h2, h1]
  dsimp only
  rw [if_neg (by simp), if_neg (by simp), if_neg (by omega), if_neg (by omega), if_neg (by omega)]
end Go.Proofs.Ytdhpjeenbejajaa
