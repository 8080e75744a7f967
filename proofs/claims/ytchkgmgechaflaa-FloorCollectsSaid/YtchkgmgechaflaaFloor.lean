/- What floors do: contracts of package floor and of the document's answer: sealed, filled, certified, collected, allowed. Conditions: the numbers fit their kinds, where typed. -/
import Derived.Test.YtchkgmgechaflaaSlc
namespace Go.Proofs.Ytchkgmgechaflaa
open Go.ChangeShapes Go.WideShapes Go.ChangeAt Go.RowKit

abbrev meta4 (f c a l : Int) : Value := .agg #[.int .u64 f, .int .u64 c, .int .u64 a, .int .u64 l]
def collects (a now grace : Int) : Bool := decide (a ≤ 281474976710656 ∧ grace ≤ 281474976710656 - a ∧ a + grace ≤ now)
def sealB (f fl : Int) : Bool := decide (fl ≤ f ∧ f ≠ 0 ∧ f ≤ 281474976710656)
def evenB (f fl c : Int) : Bool := decide (c < f ∧ f ≤ fl)
def fillB (f fl c : Int) : Bool := decide (f = fl ∧ c < f)
def capV (now : Int) : Int := if 281474976710656 < now then 281474976710656 else now
def metaB (f c a l : Int) : Bool := decide (c ≤ f ∧ f ≤ 281474976710656 ∧ a ≤ 281474976710656 ∧ l ≤ 281474976710656)

set_option maxHeartbeats 800000 in
theorem awake_ok (w : World) :
    Calls Try.prog 9 #[] w fun e w' => e = .returned (.bool true) ∧ Below w.heap.size w w' := by
  go_enter Try.func9, Try.ntmps9
  go_wp2
  go_rounds 3
  go_rounds 3
  go_returns
  exact ⟨rfl, by go_grown⟩

set_option maxHeartbeats 400000 in
theorem pcollect_yes (f c a l now grace : Int) (w : World) (ha : 0 ≤ a) (hg : 0 ≤ grace) (h : collects a now grace = true) :
    Calls Try.prog 8 #[meta4 f c a l, .int .u64 now, .int .u64 grace] w fun e w' => e = .returned (.int .u64 c) ∧ Below w.heap.size w w' := by
  simp only [collects, decide_eq_true_eq] at h
  obtain ⟨h1, h2, h3⟩ := h
  go_enter Try.func8, Try.ntmps8
  go_wp2
  go_returns
  exact ⟨rfl, by go_grown⟩

set_option maxHeartbeats 400000 in
theorem pcollect_no (f c a l now grace : Int) (w : World) (ha : 0 ≤ a) (hg : 0 ≤ grace) (h : collects a now grace = false) :
    Calls Try.prog 8 #[meta4 f c a l, .int .u64 now, .int .u64 grace] w fun e w' => e = .returned (.int .u64 0) ∧ Below w.heap.size w w' := by
  simp only [collects, decide_eq_false_iff_not] at h
  go_enter Try.func8, Try.ntmps8
  go_wp2
  all_goals
    go_returns
    exact ⟨rfl, by go_grown⟩

theorem pcollect_any (f c a l now grace : Int) (w : World) (ha : 0 ≤ a) (hg : 0 ≤ grace) :
    Calls Try.prog 8 #[meta4 f c a l, .int .u64 now, .int .u64 grace] w fun e w' => e = .returned (.int .u64 (if collects a now grace then c else 0)) ∧ Below w.heap.size w w' := by
  cases h : collects a now grace
  · simpa using pcollect_no f c a l now grace w ha hg h
  · simpa using pcollect_yes f c a l now grace w ha hg h

set_option maxHeartbeats 400000 in
theorem pseal_yes (fl c a l f : Int) (w : World) (h : sealB f fl = true) :
    Calls Try.prog 10 #[meta4 fl c a l, .int .u64 f] w fun e w' => e = .returned (.tuple #[meta4 f c a l, .bool true]) ∧ Below w.heap.size w w' := by
  simp only [sealB, decide_eq_true_eq] at h
  obtain ⟨h1, h2, h3⟩ := h
  have h4 : (f == 0) = false := beq_eq_false_iff_ne.2 h2
  go_enter Try.func10, Try.ntmps10
  go_wp2
  go_returns
  exact ⟨rfl, by go_grown⟩

set_option maxHeartbeats 400000 in
theorem pseal_no (fl c a l f : Int) (w : World) (h : sealB f fl = false) :
    Calls Try.prog 10 #[meta4 fl c a l, .int .u64 f] w fun e w' => e = .returned (.tuple #[meta4 0 0 0 0, .bool false]) ∧ Below w.heap.size w w' := by
  simp only [sealB, decide_eq_false_iff_not] at h
  by_cases h1 : f < fl
  · go_enter Try.func10, Try.ntmps10
    go_wp2
    go_returns
    exact ⟨rfl, by go_grown⟩
  · by_cases h2 : f = 0
    · subst h2
      go_enter Try.func10, Try.ntmps10
      go_wp2
      go_returns
      exact ⟨rfl, by go_grown⟩
    · have h3 : 281474976710656 < f := by omega
      have h4 : (f == 0) = false := beq_eq_false_iff_ne.2 h2
      go_enter Try.func10, Try.ntmps10
      go_wp2
      go_returns
      exact ⟨rfl, by go_grown⟩

set_option maxHeartbeats 400000 in
theorem peven_yes (fl c a l f now : Int) (w : World) (h : evenB f fl c = true) :
    Calls Try.prog 12 #[meta4 fl c a l, .int .u64 f, .int .u64 now] w fun e w' => e = .returned (.tuple #[meta4 fl f (capV now) l, .bool true]) ∧ Below w.heap.size w w' := by
  simp only [evenB, decide_eq_true_eq] at h
  obtain ⟨h1, h2⟩ := h
  by_cases h3 : 281474976710656 < now
  · have h4 : capV now = 281474976710656 := if_pos h3
    rw [h4]
    clear h4
    go_enter Try.func12, Try.ntmps12
    go_wp2
    go_returns
    exact ⟨rfl, by go_grown⟩
  · have h4 : capV now = now := if_neg h3
    rw [h4]
    clear h4
    go_enter Try.func12, Try.ntmps12
    go_wp2
    go_returns
    exact ⟨rfl, by go_grown⟩

set_option maxHeartbeats 400000 in
theorem peven_no (fl c a l f now : Int) (w : World) (h : evenB f fl c = false) :
    Calls Try.prog 12 #[meta4 fl c a l, .int .u64 f, .int .u64 now] w fun e w' => e = .returned (.tuple #[meta4 0 0 0 0, .bool false]) ∧ Below w.heap.size w w' := by
  simp only [evenB, decide_eq_false_iff_not] at h
  by_cases h1 : f ≤ c
  · go_enter Try.func12, Try.ntmps12
    go_wp2
    go_returns
    exact ⟨rfl, by go_grown⟩
  · have h2 : fl < f := by omega
    go_enter Try.func12, Try.ntmps12
    go_wp2
    go_returns
    exact ⟨rfl, by go_grown⟩

set_option maxHeartbeats 400000 in
theorem rcollect_yes (f c a l now grace : Int) (w : World) (ha : 0 ≤ a) (hg : 0 ≤ grace) (h : collects a now grace = true) :
    Calls Try.prog 19 #[meta4 f c a l, .int .u64 now, .int .u64 grace] w fun e w' => e = .returned (.int .u64 c) ∧ Below w.heap.size w w' := by
  simp only [collects, decide_eq_true_eq] at h
  obtain ⟨h1, h2, h3⟩ := h
  go_enter Try.func19, Try.ntmps19
  go_wp2
  go_returns
  exact ⟨rfl, by go_grown⟩

set_option maxHeartbeats 400000 in
theorem rcollect_no (f c a l now grace : Int) (w : World) (ha : 0 ≤ a) (hg : 0 ≤ grace) (h : collects a now grace = false) :
    Calls Try.prog 19 #[meta4 f c a l, .int .u64 now, .int .u64 grace] w fun e w' => e = .returned (.int .u64 0) ∧ Below w.heap.size w w' := by
  simp only [collects, decide_eq_false_iff_not] at h
  go_enter Try.func19, Try.ntmps19
  go_wp2
  all_goals
    go_returns
    exact ⟨rfl, by go_grown⟩

theorem rcollect_any (f c a l now grace : Int) (w : World) (ha : 0 ≤ a) (hg : 0 ≤ grace) :
    Calls Try.prog 19 #[meta4 f c a l, .int .u64 now, .int .u64 grace] w fun e w' => e = .returned (.int .u64 (if collects a now grace then c else 0)) ∧ Below w.heap.size w w' := by
  cases h : collects a now grace
  · simpa using rcollect_no f c a l now grace w ha hg h
  · simpa using rcollect_yes f c a l now grace w ha hg h

set_option maxHeartbeats 400000 in
theorem rseal_yes (fl c a l f : Int) (w : World) (h : sealB f fl = true) :
    Calls Try.prog 15 #[meta4 fl c a l, .int .u64 f] w fun e w' => e = .returned (.tuple #[meta4 f c a l, .bool true]) ∧ Below w.heap.size w w' := by
  simp only [sealB, decide_eq_true_eq] at h
  obtain ⟨h1, h2, h3⟩ := h
  have h4 : (f == 0) = false := beq_eq_false_iff_ne.2 h2
  go_enter Try.func15, Try.ntmps15
  go_wp2
  go_returns
  exact ⟨rfl, by go_grown⟩

set_option maxHeartbeats 400000 in
theorem rseal_no (fl c a l f : Int) (w : World) (h : sealB f fl = false) :
    Calls Try.prog 15 #[meta4 fl c a l, .int .u64 f] w fun e w' => e = .returned (.tuple #[meta4 0 0 0 0, .bool false]) ∧ Below w.heap.size w w' := by
  simp only [sealB, decide_eq_false_iff_not] at h
  by_cases h1 : f < fl
  · go_enter Try.func15, Try.ntmps15
    go_wp2
    go_returns
    exact ⟨rfl, by go_grown⟩
  · by_cases h2 : f = 0
    · subst h2
      go_enter Try.func15, Try.ntmps15
      go_wp2
      go_returns
      exact ⟨rfl, by go_grown⟩
    · have h3 : 281474976710656 < f := by omega
      have h4 : (f == 0) = false := beq_eq_false_iff_ne.2 h2
      go_enter Try.func15, Try.ntmps15
      go_wp2
      go_returns
      exact ⟨rfl, by go_grown⟩

set_option maxHeartbeats 400000 in
theorem reven_yes (fl c a l f now : Int) (w : World) (h : evenB f fl c = true) :
    Calls Try.prog 16 #[meta4 fl c a l, .int .u64 f, .int .u64 now] w fun e w' => e = .returned (.tuple #[meta4 fl f (capV now) l, .bool true]) ∧ Below w.heap.size w w' := by
  simp only [evenB, decide_eq_true_eq] at h
  obtain ⟨h1, h2⟩ := h
  by_cases h3 : 281474976710656 < now
  · have h4 : capV now = 281474976710656 := if_pos h3
    rw [h4]
    clear h4
    go_enter Try.func16, Try.ntmps16
    go_wp2
    go_returns
    exact ⟨rfl, by go_grown⟩
  · have h4 : capV now = now := if_neg h3
    rw [h4]
    clear h4
    go_enter Try.func16, Try.ntmps16
    go_wp2
    go_returns
    exact ⟨rfl, by go_grown⟩

set_option maxHeartbeats 400000 in
theorem reven_no (fl c a l f now : Int) (w : World) (h : evenB f fl c = false) :
    Calls Try.prog 16 #[meta4 fl c a l, .int .u64 f, .int .u64 now] w fun e w' => e = .returned (.tuple #[meta4 0 0 0 0, .bool false]) ∧ Below w.heap.size w w' := by
  simp only [evenB, decide_eq_false_iff_not] at h
  by_cases h1 : f ≤ c
  · go_enter Try.func16, Try.ntmps16
    go_wp2
    go_returns
    exact ⟨rfl, by go_grown⟩
  · have h2 : fl < f := by omega
    go_enter Try.func16, Try.ntmps16
    go_wp2
    go_returns
    exact ⟨rfl, by go_grown⟩

set_option maxHeartbeats 400000 in
theorem fill_any (fl c a l f : Int) (w : World) :
    Calls Try.prog 11 #[meta4 fl c a l, .int .u64 f] w fun e w' => e = .returned (.bool (fillB f fl c)) ∧ Below w.heap.size w w' := by
  by_cases h1 : f = fl
  · subst h1
    have h2 : fillB f f c = decide (c < f) := by simp [fillB]
    go_enter Try.func11, Try.ntmps11
    go_wp2
    go_returns
    exact ⟨by rw [h2]; rfl, by go_grown⟩
  · have h2 : fillB f fl c = false := by simp [fillB, h1]
    have h4 : (f == fl) = false := beq_eq_false_iff_ne.2 h1
    go_enter Try.func11, Try.ntmps11
    go_wp2
    go_returns
    exact ⟨by rw [h2]; rfl, by go_grown⟩
end Go.Proofs.Ytchkgmgechaflaa
