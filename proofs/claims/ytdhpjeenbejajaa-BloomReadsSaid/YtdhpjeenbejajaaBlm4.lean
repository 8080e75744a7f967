/- clepsydra/bloom.New: contracts. Conditions: typed at each. -/
import Derived.Test.YtdhpjeenbejajaaBlm3
import Derived.Laws.OwnMore
namespace Go.Proofs.Ytdhpjeenbejajaa
set_option linter.unusedVariables false
set_option linter.unusedSimpArgs false
open Go.ChangeShapes Go.WideShapes Go.ChangeAt Go.RowKit

def newK (each : Int) : Nat := (max (each * 7 / 10) 1).toNat
def newS (n each : Int) : Nat := ((max (n * each) 64 + 7) / 8).toNat
def zeros (n : Nat) : List Int := List.replicate n 0

theorem Try.infoU8 : (Try.prog.info? 5).map (fun i => (i.zero, i.size, i.bytes)) = some (some (.int .u8 0), 1, 1) := by kernel_rfl
theorem run_make_bytes (S : Nat) (hS : S ≤ 100000) (w : World) : (Instr.makeSlice 27 (.int .i64 S) (.int .i64 S)).run Try.prog w = .ok (.slice (some ⟨w.heap.size, 0, none⟩) S S) (w.alloc (.cells ((zeros S).map u8v).toArray 5)) := by
  obtain ⟨i0, hi, hz0, hz1, hz2⟩ := info_parts Try.infoU8
  rw [run_make (P := Try.prog) w 27 5 i0 _ Try.underlying27 hi hz0 .i64 .i64 S S (by omega) (by omega) (by rw [hz2]; omega) (by omega), hz1]
  have h := toList_madeCells_one (.int .u8 0) S
  have e : madeCells (Value.int .u8 0).cells ((S : Int).toNat * 1) = ((zeros S).map u8v).toArray := by
    apply Array.toList_inj.1
    simp only [Int.toNat_natCast, Nat.mul_one, zeros, List.map_replicate]
    exact h
  rw [e]
  simp
set_option maxHeartbeats 1000000 in
theorem new_yes (n each : Int) (w : World) (hn : 0 ≤ n ∧ n ≤ 10000) (he : 1 ≤ each ∧ each ≤ 20) :
    Calls Try.prog 8 #[.int .i64 n, .int .i64 each] w fun e w' => ∃ p g, e = .returned (.tuple #[.pointer (some ⟨p, 0, none⟩), .int .i64 0]) ∧ w.heap.size ≤ p ∧ w.heap.size ≤ g ∧ Flt w' p g (newK each) (zeros (newS n each)) ∧ Below w.heap.size w w' := by
  have d0 : decide (n < 0) = false := decide_eq_false (by omega)
  have d1 : decide (10000 < n) = false := decide_eq_false (by omega)
  have d2 : decide (each < 1) = false := decide_eq_false (by omega)
  have d3 : decide (20 < each) = false := decide_eq_false (by omega)
  have HK : Hid (((newK each : Nat) : Int) = max (each * 7 / 10) 1) := hide (by unfold newK; omega)
  have HK2 : Hid (1 ≤ newK each ∧ newK each ≤ 14) := hide (by unfold newK; omega)
  have hm : 0 ≤ n * each ∧ n * each ≤ 200000 := by
    have h1 := Int.mul_nonneg hn.1 (show (0 : Int) ≤ each by omega)
    have h2 : n * each ≤ 10000 * 20 := Int.mul_le_mul hn.2 he.2 (by omega) (by omega)
    omega
  obtain ⟨M, hM⟩ : ∃ M, n * each = M := ⟨_, rfl⟩
  rw [hM] at hm
  have e1 : wrap64 (n * each) = M := by rw [hM]; unfold wrap64; omega
  obtain ⟨X, hX⟩ : ∃ X, max M 64 = X := ⟨_, rfl⟩
  have hX2 : 64 ≤ X ∧ X ≤ 200000 := by omega
  have e2 : wrap64 (X + 8) = X + 8 := by unfold wrap64; omega
  have e3 : wrap64 (X + 8 - 1) = X + 7 := by unfold wrap64; omega
  obtain ⟨S, hS⟩ : ∃ S : Nat, (X + 7) / 8 = S := ⟨((X + 7) / 8).toNat, by omega⟩
  have e4 : (X + 8 - 1) / 8 = S := by omega
  have hS2 : 8 ≤ S ∧ S ≤ 25000 := by omega
  have e5 : wrap64 (S : Int) = S := by unfold wrap64; omega
  have hSS : Hid (newS n each = S) := hide (by unfold newS; rw [hM, hX, hS]; simp)
  clear hM hS
  have hS3 : S ≤ 100000 := Nat.le_trans hS2.2 (by decide)
  have hmk := run_make_bytes S hS3
  go_enter Try.func8, Try.ntmps8
  go_wp2_with fail
  refine bodyPost_ret (v := .tuple #[.pointer (some ⟨w.heap.size + 1, 0, none⟩), .int .i64 0]) (by simp [results, Try.results8]) rfl ?_
  refine ⟨w.heap.size + 1, w.heap.size, rfl, by omega, Nat.le_refl _, ?_, below_alloc (below_alloc (Below.refl _ _) _) _⟩
  rw [hSS.out]
  have hz : (zeros S).length = S := by simp [zeros]
  refine ⟨?_, ?_, by omega, ?_, by rw [hz]; exact ⟨Nat.le_trans (by decide) hS2.1, hS2.2⟩, ?_⟩
  · rw [hz, HK.out]
    exact heap_at (by simp)
  · exact (Below.heap_alloc _ _ _ (by simp)).trans (heap_alloc_new _ _)
  · exact HK2.out
  · intro b hb
    have := List.eq_of_mem_replicate hb
    subst this
    exact ⟨by decide, by decide⟩

theorem new_no (n each : Int) (w : World) (h : n < 0 ∨ 10000 < n ∨ each < 1 ∨ 20 < each) :
    Calls Try.prog 8 #[.int .i64 n, .int .i64 each] w fun e w' => e = .returned (.tuple #[.pointer none, .int .i64 1]) ∧ Below w.heap.size w w' := by
  by_cases h0 : n < 0
  · have d0 : decide (n < 0) = true := decide_eq_true h0
    go_enter Try.func8, Try.ntmps8
    go_wp2_with fail
    exact bodyPost_ret (v := .tuple #[.pointer none, .int .i64 1]) (by simp [results, Try.results8]) rfl ⟨rfl, Below.refl _ _⟩
  have d0 : decide (n < 0) = false := decide_eq_false h0
  by_cases h1 : 10000 < n
  · have d1 : decide (10000 < n) = true := decide_eq_true h1
    go_enter Try.func8, Try.ntmps8
    go_wp2_with fail
    exact bodyPost_ret (v := .tuple #[.pointer none, .int .i64 1]) (by simp [results, Try.results8]) rfl ⟨rfl, Below.refl _ _⟩
  have d1 : decide (10000 < n) = false := decide_eq_false h1
  by_cases h2 : each < 1
  · have d2 : decide (each < 1) = true := decide_eq_true h2
    go_enter Try.func8, Try.ntmps8
    go_wp2_with fail
    exact bodyPost_ret (v := .tuple #[.pointer none, .int .i64 1]) (by simp [results, Try.results8]) rfl ⟨rfl, Below.refl _ _⟩
  have d2 : decide (each < 1) = false := decide_eq_false h2
  have h3 : 20 < each := by omega
  have d3 : decide (20 < each) = true := decide_eq_true h3
  go_enter Try.func8, Try.ntmps8
  go_wp2_with fail
  exact bodyPost_ret (v := .tuple #[.pointer none, .int .i64 1]) (by simp [results, Try.results8]) rfl ⟨rfl, Below.refl _ _⟩
end Go.Proofs.Ytdhpjeenbejajaa
