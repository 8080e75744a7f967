/- A get hangs on its series alone: plain words. -/
import Derived.Test.YtebnifpclebliaaAxPl
namespace Go.Proofs.Ytebnifpclebliaa
set_option linter.unusedVariables false
set_option linter.unusedSimpArgs false
open Go.ChangeShapes Go.WideShapes Go.ChangeAt Go.RowKit

theorem pit_s (i : Nat) (x : Int) : (pit i x).s = x % 2 := by unfold pit; split <;> rfl
theorem part_series {L : List Int} {p : Nat → Bool} {k : Nat} {s : Int} (hk : k ≤ 30) (hp : ∀ i, p i = decide (L.getD i 0 % 2 = s)) {z : It} : z ∈ itemsL (partA L p k) ↔ z ∈ itemsL (partA L (fun _ => true) k) ∧ z.s = s := by
  rw [mem_part hk, mem_part hk]
  constructor
  · rintro ⟨i, hi, h, rfl⟩
    rw [hp i, decide_eq_true_eq] at h
    exact ⟨⟨i, hi, rfl, rfl⟩, by rw [pit_s]; exact h⟩
  · rintro ⟨⟨i, hi, _, rfl⟩, h⟩
    rw [pit_s] at h
    exact ⟨i, hi, by rw [hp i]; exact decide_eq_true h, rfl⟩
theorem anyI_congr {p q : It → Bool} {L M : List It} (h : (∃ x ∈ L, p x = true) ↔ ∃ x ∈ M, q x = true) : anyI p L = anyI q M := by
  rw [Bool.eq_iff_iff, anyI_true, anyI_true]; exact h
theorem rd2_iff {s : Int} {K : List Int} {all got : List It} {x : It} : rd2 s K all got x = true ↔ x.s = s ∧ hasU x.v K = true ∧ thereB all got x = false := by
  unfold rd2
  rw [Bool.and_eq_true, Bool.and_eq_true, decide_eq_true_eq, Bool.not_eq_true']
  exact ⟨fun ⟨⟨a, b⟩, c⟩ => ⟨a, b, c⟩, fun ⟨a, b, c⟩ => ⟨⟨a, b⟩, c⟩⟩
theorem parts_none {M P : List It} {K : List Int} {s : Int} (h : ∀ z, z ∈ P ↔ z ∈ M ∧ z.s = s) : readL M K [] s = readL P K [] s := by
  unfold readL
  have e1 : ∀ N : List It, anyI (rd1 s N) [] = false := fun _ => rfl
  have e2 : anyI (rd2 s K M []) M = anyI (rd2 s K P []) P := by
    have ht : ∀ x : It, x.s = s → thereB M [] x = thereB P [] x := fun x hx => by
      unfold thereB
      have e3 : anyI (isB x) [] = false := rfl
      rw [e3, Bool.false_or, Bool.false_or]
      refine anyI_congr ⟨?_, ?_⟩
      · rintro ⟨t, ht, hg⟩
        have := goneB_iff.1 hg
        exact ⟨t, (h t).2 ⟨ht, this.2.1.trans hx⟩, hg⟩
      · rintro ⟨t, ht, hg⟩
        exact ⟨t, ((h t).1 ht).1, hg⟩
    refine anyI_congr ⟨?_, ?_⟩
    · rintro ⟨x, hx, hr⟩
      obtain ⟨a, b, c⟩ := rd2_iff.1 hr
      exact ⟨x, (h x).2 ⟨hx, a⟩, rd2_iff.2 ⟨a, b, by rw [← ht x a]; exact c⟩⟩
    · rintro ⟨x, hx, hr⟩
      obtain ⟨a, b, c⟩ := rd2_iff.1 hr
      exact ⟨x, ((h x).1 hx).1, rd2_iff.2 ⟨a, b, by rw [ht x a]; exact c⟩⟩
  rw [e1, e1, e2]
theorem parts_fold {M P : List It} {s : Int} (hM : ∀ z ∈ M, It.good z) (hP : ∀ z ∈ P, It.good z) (h : ∀ z, z ∈ P ↔ z ∈ M ∧ z.s = s) : (ofL M).filter (serP s) = ofL P := by
  refine rising_ext (((ofL_state M).filter _).2.1) ((ofL_state P).2.1) fun x => ?_
  rw [List.mem_filter, fold_there hM, fold_there hP]
  unfold serP There
  rw [decide_eq_true_eq]
  constructor
  · rintro ⟨⟨a, b, c⟩, d⟩
    exact ⟨(h x).2 ⟨a, d⟩, fun y hy => b y ((h y).1 hy).1, fun t ht => c t ((h t).1 ht).1⟩
  · rintro ⟨a, b, c⟩
    obtain ⟨a1, a2⟩ := (h x).1 a
    refine ⟨⟨a1, fun y hy hs => b y ((h y).2 ⟨hy, ?_⟩) hs, fun t ht hh => c t ((h t).2 ⟨ht, ?_⟩) hh⟩, a2⟩
    · have := hs.1; omega
    · have := hh.2.2.1; omega
theorem parts_read {P : List It} {K : List Int} {s : Int} (hP : ∀ z ∈ P, It.good z) (hs : ∀ z ∈ P, z.s = s) : readL P K (ofL P) s = true :=
  read_ok hP (fun z hz => hz) (fun x hx _ => hx) (ofL_state P) (fun z hz => ⟨(fold_there hP).1 hz, hs z ((fold_there hP).1 hz).1⟩) (fun z hz _ _ => (fold_there hP).2 hz)
end Go.Proofs.Ytebnifpclebliaa
