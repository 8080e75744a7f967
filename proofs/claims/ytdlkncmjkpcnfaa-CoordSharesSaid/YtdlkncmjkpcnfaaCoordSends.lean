/- A get's messages to all nodes; what wakes layer 24's statements. Conditions typed. -/
import Derived.Test.YtdlkncmjkpcnfaaCoordNew2
namespace Go.Proofs.Ytdlkncmjkpcnfaa
open Go.ChangeShapes Go.WideShapes Go.ChangeAt Go.RowKit

set_option maxHeartbeats 1600000 in
theorem sends_get (b : Nat) (n : Nat) (at_ id s : Int) (w : World) (hn : n ≤ 7) (hs : 0 ≤ s ∧ s ≤ 255) (h : w.heap[b]? = some (.cells (callNew n at_ id 3 s 0 0 0) 53 (0, 0))) :
    Calls Try.prog 10 #[.pointer (some ⟨b, 0, none⟩)] w fun e w' => (∃ v, e = .returned v ∧ OwnL Ms.cells 6 57 w.heap.size w' v (asks at_ id s n)) ∧ Below w.heap.size w w' := by
  have key := fun i => cell_of_row w b i _ _ _ h
  have c0 := key 0
  have c1 := key 1
  have c2 := key 2
  have c3 := key 3
  have c4 := key 4
  have c5 := key 5
  have c6 := key 6
  have c7 := key 7
  simp [callNew] at c0 c1 c2 c3 c4 c5 c6 c7
  clear key h
  go_enter Try.func10, Try.ntmps10
  go_wp2
  go_region
  go_wp2_with fail
  have hs' : (0 : Int) ≤ s := hs.1
  refine (send_get _ n at_ id s _ hn hs ?_).mono ?_
  · refine ⟨by simp, by simp, by simp, by simp, by simp, by simp, ?_⟩
    intro k hk
    match k, hk with
    | 0, _ => simp
    | 1, _ => simp
    | 2, _ => simp
    | 3, _ => simp
    | 4, _ => simp
    | 5, _ => simp
    | 6, _ => simp
  · rintro e w1 ⟨⟨v, rfl, hown⟩, hg1⟩
    go_wp2
    go_ret
    exact ⟨⟨v, rfl, ⟨hown.1, by
      rcases hown.2 with hx | ⟨g, cap, cur, h1, h2, h3⟩
      · exact .inl hx
      · exact .inr ⟨g, cap, cur, h1, by simp at h2; omega, h3⟩⟩⟩, by repeat' (first | exact Below.refl _ _ | refine below_alloc ?_ _ | refine Below.drew ?_ | refine below_step ?_ (by assumption))⟩

theorem need_any (n : Int) (w : World) (h0 : 0 ≤ n) (h1 : n ≤ 1000) : Calls Try.prog 7 #[.int .i64 n] w fun e w' => e = .returned (.int .i64 (n / 2 + 1)) ∧ Below w.heap.size w w' := by
  go_enter Try.func7, Try.ntmps7
  go_wp2
  go_ret
  exact ⟨rfl, Below.refl _ _⟩

set_option maxHeartbeats 1600000 in
theorem awake_ok (w : World) : Calls Try.prog 6 #[] w fun e w' => e = .returned (.bool true) ∧ Below w.heap.size w w' := by
  have k1 := fun W => new_yes 3 0 7 3 4 0 0 0 W (by decide)
  have k2 := fun W => new_no 3 3 7 3 0 0 0 0 W (by decide)
  have K1 := hide k1
  have K2 := hide k2
  clear k1 k2
  go_enter Try.func6, Try.ntmps6
  go_wp2_with (first
    | ((with_reducible refine (K1.out _).mono ?_); rintro e w1 ⟨⟨b, rfl, hb, hh⟩, hg1⟩; have HH := hide hh; clear hh)
    | ((with_reducible refine (K2.out _).mono ?_); rintro e w2 ⟨rfl, hg2⟩))
  have hlt : b < w1.heap.size := (Array.getElem?_eq_some_iff.1 HH.out).1
  have HH2 := hide ((hg2.block b hlt).trans HH.out)
  refine (sends_get b 3 0 7 4 w2 (by omega) (by omega) HH2.out).mono ?_
  rintro e w3 ⟨⟨v, rfl, hown⟩, hg3⟩
  obtain ⟨g, cap, rfl, hgb, hgl⟩ := hown.form (by simp [asks_len])
  have cx := World.ownsRow.cellAt hown
  have d0 := cx 12 (by simp [asks_len])
  have d1 := cx 13 (by simp [asks_len])
  have d2 := cx 14 (by simp [asks_len])
  have d3 := cx 15 (by simp [asks_len])
  have d4 := cx 16 (by simp [asks_len])
  clear cx
  rw [show (asks 0 7 4 3).length = 3 from rfl] at *
  rw [show ((asks 0 7 4 3).flatMap Ms.cells)[12]? = some (.int .i64 4) from rfl] at d0
  rw [show ((asks 0 7 4 3).flatMap Ms.cells)[13]? = some (.int .i64 0) from rfl] at d1
  rw [show ((asks 0 7 4 3).flatMap Ms.cells)[14]? = some (.int .i64 2) from rfl] at d2
  rw [show ((asks 0 7 4 3).flatMap Ms.cells)[15]? = some (.int .u64 7) from rfl] at d3
  rw [show ((asks 0 7 4 3).flatMap Ms.cells)[16]? = some (.int .u64 4) from rfl] at d4
  have HO := hide hown
  clear hown
  go_wp2_with ((with_reducible refine (need_any _ _ (by omega) (by omega)).mono ?_); rintro e w4 ⟨rfl, hg4⟩; obtain ⟨hc4, hf4⟩ := bcell hg4)
  go_returns
  exact ⟨by rfl, by repeat' (first | exact Below.refl _ _ | refine below_alloc ?_ _ | refine below_step ?_ (by assumption))⟩
end Go.Proofs.Ytdlkncmjkpcnfaa
