/- A client's call begun: what its memory holds, or that it is refused; its messages, of a get. Contracts of coord.New, Sends; what wakes the layer. Conditions typed. -/
import Derived.Test.YtdlkncmjkpcnfaaCoordNew
namespace Go.Proofs.Ytdlkncmjkpcnfaa
open Go.ChangeShapes Go.WideShapes Go.ChangeAt Go.RowKit

def newB (n at_ id k s t x v : Int) : Bool := nodesB n at_ id && clientB k s t x && decide (v ≤ 281474976710656) && (v == 0) == (k == 3)
/-- A call that nobody answered: its cells. -/
def callNew (n at_ id k s t x v : Int) : Array Value :=
  #[.int .i64 n, .int .i64 at_, .int .u64 id, .int .i64 k, .int .i64 s, .int .u64 t, .int .i64 x, .int .u64 v, .bool false, .bool false, .bool false, .bool false, .bool false, .bool false, .bool false, .int .i64 0, .slice none 0 0, .int .i64 0,
    .int .u32 0, .int .i32 0, .int .u32 0, .int .u64 0, .int .i64 0, .int .i64 0, .int .u64 0, .int .i64 0, .int .i64 0, .int .u64 0, .slice none 0 0, .bool false]

set_option maxHeartbeats 1600000 in
theorem new_no (n at_ id k s t x v : Int) (w : World) (h : newB n at_ id k s t x v = false) :
    Calls Try.prog 5 #[.int .i64 n, .int .i64 at_, .int .u64 id, client4 k s t x, .int .u64 v] w fun e w' => e = .returned (.tuple #[.pointer none, .int .i64 1]) ∧ Below w.heap.size w w' := by
  have hn := fun W => nodes_any n at_ id W
  have ho := fun W => ok_any k s t x W
  unfold newB at h
  cases h1 : nodesB n at_ id
  case false =>
    rw [h1] at hn
    have HN := hide hn
    clear hn ho h h1
    go_enter Try.func5, Try.ntmps5
    go_wp2_with ((with_reducible refine (HN.out _).mono ?_); rintro e w1 ⟨rfl, hg1⟩)
    go_returns
    exact ⟨rfl, by repeat' (first | exact Below.refl _ _ | refine below_alloc ?_ _ | refine below_step ?_ (by assumption))⟩
  rw [h1] at hn h
  have HN := hide hn
  clear hn h1
  cases h2 : clientB k s t x
  case false =>
    rw [h2] at ho
    have HO := hide ho
    clear ho h h2
    go_enter Try.func5, Try.ntmps5
    go_wp2_with (first
      | ((with_reducible refine (HN.out _).mono ?_); rintro e w1 ⟨rfl, hg1⟩; obtain ⟨hc1, hf1⟩ := bcell hg1)
      | ((with_reducible refine (HO.out _).mono ?_); rintro e w2 ⟨rfl, hg2⟩))
    go_returns
    exact ⟨rfl, by repeat' (first | exact Below.refl _ _ | refine below_alloc ?_ _ | refine below_step ?_ (by assumption))⟩
  rw [h2] at ho h
  have HO := hide ho
  clear ho h2
  by_cases h3 : v ≤ 281474976710656
  case neg =>
    clear h
    have d : decide (281474976710656 < v) = true := decide_eq_true (by omega)
    go_enter Try.func5, Try.ntmps5
    go_wp2_with (first
      | ((with_reducible refine (HN.out _).mono ?_); rintro e w1 ⟨rfl, hg1⟩; obtain ⟨hc1, hf1⟩ := bcell hg1)
      | ((with_reducible refine (HO.out _).mono ?_); rintro e w2 ⟨rfl, hg2⟩))
    go_returns
    exact ⟨rfl, by repeat' (first | exact Below.refl _ _ | refine below_alloc ?_ _ | refine below_step ?_ (by assumption))⟩
  have d : decide (281474976710656 < v) = false := decide_eq_false (by omega)
  cases h4 : (v == 0) <;> cases h5 : (k == 3)
  all_goals simp [h3, h4, h5] at h
  all_goals
    go_enter Try.func5, Try.ntmps5
    go_wp2_with (first
      | ((with_reducible refine (HN.out _).mono ?_); rintro e w1 ⟨rfl, hg1⟩; obtain ⟨hc1, hf1⟩ := bcell hg1)
      | ((with_reducible refine (HO.out _).mono ?_); rintro e w2 ⟨rfl, hg2⟩; obtain ⟨hc2, hf2⟩ := bcell hg2; have z2 : w.heap.size < w1.heap.size := (by have hh := hg1.size; (try simp at hh); omega)))
    go_returns
    exact ⟨rfl, by repeat' (first | exact Below.refl _ _ | refine below_alloc ?_ _ | refine below_step ?_ (by assumption))⟩

set_option maxHeartbeats 1600000 in
theorem new_yes (n at_ id k s t x v : Int) (w : World) (h : newB n at_ id k s t x v = true) :
    Calls Try.prog 5 #[.int .i64 n, .int .i64 at_, .int .u64 id, client4 k s t x, .int .u64 v] w fun e w' => (∃ b, e = .returned (.tuple #[.pointer (some ⟨b, 0, none⟩), .int .i64 0]) ∧ w.heap.size ≤ b ∧ w'.heap[b]? = some (.cells (callNew n at_ id k s t x v) 53 (0, 0))) ∧ Below w.heap.size w w' := by
  have hn := fun W => nodes_any n at_ id W
  have ho := fun W => ok_any k s t x W
  unfold newB at h
  simp only [Bool.and_eq_true, decide_eq_true_eq] at h
  obtain ⟨⟨⟨h1, h2⟩, h3⟩, h6⟩ := h
  rw [h1] at hn
  rw [h2] at ho
  have HN := hide hn
  have HO := hide ho
  have d : decide (281474976710656 < v) = false := decide_eq_false (by omega)
  clear hn ho h1 h2
  cases h4 : (v == 0) <;> cases h5 : (k == 3)
  all_goals simp [h4, h5] at h6
  all_goals
    go_enter Try.func5, Try.ntmps5
    go_wp2_with (first
      | ((with_reducible refine (HN.out _).mono ?_); rintro e w1 ⟨rfl, hg1⟩; obtain ⟨hc1, hf1⟩ := bcell hg1)
      | ((with_reducible refine (HO.out _).mono ?_); rintro e w2 ⟨rfl, hg2⟩; obtain ⟨hc2, hf2⟩ := bcell hg2; have z2 : w.heap.size < w1.heap.size := (by have hh := hg1.size; (try simp at hh); omega); have z3 : w.heap.size < w2.heap.size := (by have hh := hg2.size; omega)))
    go_returns
    refine ⟨⟨w2.heap.size, rfl, by omega, heap_alloc_new w2 _⟩, by repeat' (first | exact Below.refl _ _ | refine below_alloc ?_ _ | refine below_step ?_ (by assumption))⟩
end Go.Proofs.Ytdlkncmjkpcnfaa
