/- Round.Ends in plain words: what the round is behind k seals, fills, Ticks. -/
import Derived.Test.YtikecafblampeaaRndC
namespace Go.Proofs.Ytikecafblampeaa.roundEnds
set_option linter.unusedVariables false
set_option linter.unusedSimpArgs false
open Go.ChangeShapes Go.WideShapes Go.ChangeAt Go.RowKit
/-- Behind k seals. -/
def RA (s : Bool) (n l k : Nat) : Rs := if s = true ∧ k = n then stG n 1 9 77 2 (fun _ => false) [] 0 else stG n 1 9 77 1 (upC k (if s = true then n else l)) [] 0
/-- Behind k fills. -/
def RB (s : Bool) (n l k : Nat) : Rs := if s = true then stG n 1 9 77 2 (upC k l) [] 0 else stG n 1 9 77 1 (upC n l) [] 0
abbrev mS (i : Nat) : Mg := ⟨7, (i : Int), 1, 9, 77, none, 0, []⟩
abbrev mF (i : Nat) : Mg := ⟨9, (i : Int), 1, 9, 77, none, 0, []⟩
abbrev mO (i : Nat) (v : Int) : Mg := ⟨3, (i : Int), 1, 9, v, none, 0, []⟩
theorem mg_rd (w : World) (x : Mg) (h : x.A = none) (hL : x.L = []) (hc : x.c = 0) : x.rd w := mg0_rd w x h hL hc
theorem mS_ok {i : Nat} (h : i < 7) : mokB (mS i) = true := by unfold mokB nodeB; simp; omega
theorem mF_ok {i : Nat} (h : i < 7) : mokB (mF i) = true := by unfold mokB nodeB; simp; omega
theorem mO_ok {i : Nat} (h : i < 7) {v : Int} (hv : v ≤ 65535) : mokB (mO i v) = true := by unfold mokB nodeB; simp; omega
theorem upC_n (n : Nat) {j : Nat} : upC n n j = decide (j < n) := by
  unfold upC
  by_cases e : j = n
  · subst e; simp
  · simp [e]
section
variable {s : Bool} {n l k : Nat}
theorem RA_k (hn : 2 ≤ n ∧ n ≤ 7) (hk : k ≤ n) : RndK (RA s n l k) := by
  unfold RA
  split <;> exact stG_k (by omega) (by omega) (by simp) (by omega)
theorem RB_k (hn : 2 ≤ n ∧ n ≤ 7) : RndK (RB s n l k) := by
  unfold RB
  split <;> exact stG_k (by omega) (by omega) (by simp) (by omega)
theorem RA_on (hn : 2 ≤ n ∧ n ≤ 7) (hl : l < n) (hk : k < n) (h : k ≠ l ∨ s = true) : onR (RA s n l k) (mS k) = RA s n l (k + 1) := by
  have e1 : RA s n l k = stG n 1 9 77 1 (upC k (if s = true then n else l)) [] 0 := by unfold RA; rw [if_neg (by omega)]
  rw [e1]
  have hq : k ≠ (if s = true then n else l) := by
    cases s
    · simpa using h
    · simp; omega
  by_cases hlast : s = true ∧ k + 1 = n
  · obtain ⟨hs, hkn⟩ := hlast
    have h1 := (on_fill (n := n) (a := 1) (id := 9) (f := 77) (C := upC k (if s = true then n else l)) (L := []) (tk := 0) (m := mS k) (i := k) rfl (mS_ok (by omega)) rfl rfl rfl rfl hk (upC_at _ _) (fun j hj hne => upC_yes (by omega) (by rw [if_pos hs]; omega))).1
    rw [h1]
    unfold RA
    rw [if_pos ⟨hs, hkn⟩, show joinL [] (mS k).L = [] from joinL_nn]
  · have hj : ∃ j, j < n ∧ k ≠ j ∧ upC k (if s = true then n else l) j = false := by
      cases s
      · by_cases e : k < l
        · exact ⟨l, hl, by omega, upC_q _ _⟩
        · exact ⟨l, hl, by simp at h; omega, upC_q _ _⟩
      · refine ⟨k + 1, ?_, by omega, upC_far (by omega)⟩
        simp at hlast; omega
    have h1 := (on_more (n := n) (a := 1) (id := 9) (f := 77) (p := 1) (C := upC k (if s = true then n else l)) (L := []) (tk := 0) (m := mS k) (i := k) (.inl ⟨rfl, rfl⟩) (mS_ok (by omega)) rfl rfl rfl rfl hk (upC_at _ _) hj).1
    rw [h1, upC_set hq]
    unfold RA
    rw [if_neg hlast, if_pos rfl, show joinL [] (mS k).L = [] from joinL_nn]
theorem RA_skip : RA false n l l = RA false n l (l + 1) := by
  unfold RA
  rw [if_neg (by simp), if_neg (by simp), if_neg (by simp), upC_skip]
theorem RA_RB : RA s n l n = RB s n l 0 := by
  unfold RA RB
  cases s
  · simp
  · simp only [true_and, if_true, upC_zero]
theorem RB_on (hn : 2 ≤ n ∧ n ≤ 7) (hl : l < n) (hk : k < n) (h : k ≠ l) : onR (RB true n l k) (mF k) = RB true n l (k + 1) := by
  have h1 := (on_more (n := n) (a := 1) (id := 9) (f := 77) (p := 2) (C := upC k l) (L := []) (tk := 0) (m := mF k) (i := k) (.inr ⟨rfl, rfl⟩) (mF_ok (by omega)) rfl rfl rfl rfl hk (upC_at _ _) ⟨l, hl, h, upC_q _ _⟩).1
  unfold RB
  rw [if_pos rfl, if_pos rfl, h1, upC_set h]
  rfl
theorem RB_skip : RB true n l l = RB true n l (l + 1) := by
  unfold RB
  rw [if_pos rfl, if_pos rfl, upC_skip]
theorem RB_end (hk : k = n ∨ s = false) : RB s n l k = stG n 1 9 77 (if s = true then 2 else 1) (upC n l) [] 0 := by
  unfold RB
  cases s
  · rfl
  · obtain rfl : k = n := by simpa using hk
    rfl
end
/-- What the Ticks see. -/
def RT (p : Int) (n l t : Nat) : Rs := if t = 41 then endG n 1 9 77 (upC n l) [] 40 20 77 else stG n 1 9 77 p (upC n l) [] ((t : Int) - 1)
theorem RT_st {p : Int} {n l t : Nat} (ht : t ≤ 40) : RT p n l t = stG n 1 9 77 p (upC n l) [] ((t : Int) - 1) := by unfold RT; rw [if_neg (by omega)]
theorem RT_one (p : Int) (n l : Nat) : RT p n l 1 = stG n 1 9 77 p (upC n l) [] 0 := RT_st (by omega)
theorem RT_end (p : Int) (n l : Nat) : RT p n l 41 = endG n 1 9 77 (upC n l) [] 40 20 77 := by unfold RT; rw [if_pos rfl]
theorem told_one {N : List Mg} {x : Mg} (h : N.map Mg.bare = [x]) : ∃ y, N = [y] ∧ y.bare = x := by
  match N, h with
  | [y], h => exact ⟨y, rfl, by simpa using h⟩
theorem RT_k {p : Int} {n l t : Nat} (hn : 2 ≤ n ∧ n ≤ 7) (hp : p = 1 ∨ p = 2) (ht : 1 ≤ t ∧ t ≤ 41) : RndK (RT p n l t) := by
  unfold RT
  split
  · exact endG_k (by omega) (by simp) (by omega)
  · exact stG_k (by omega) hp (by simp) (by omega)
theorem RT_tick {p : Int} {n l t : Nat} (hp : p = 1 ∨ p = 2) (ht : 1 ≤ t ∧ t ≤ 40) : tickR (RT p n l t) = RT p n l (t + 1) := by
  unfold RT
  rw [if_neg (by omega)]
  by_cases e : t = 40
  · subst e
    rw [if_pos rfl]
    exact (tick_late (by omega)).1
  · rw [if_neg (by omega), tick_more (by omega) (by omega), show ((t : Int) - 1 + 1) = (((t + 1 : Nat) : Int) - 1) by omega]
theorem RT_msgs {p : Int} {n l t : Nat} (hl : l < n) (hp : p = 1 ∨ p = 2) (ht : 1 ≤ t ∧ t ≤ 40) : ∃ x : Mg, x.t = (l : Int) ∧ tickM (RT p n l t) = if t % 3 = 0 ∧ t < 40 then [x] else [] := by
  unfold RT
  rw [if_neg (by omega)]
  by_cases e : t = 40
  · subst e
    exact ⟨toM (stG n 1 9 77 p (upC n l) [] 0) l 6, rfl, (tick_late (by omega)).2⟩
  · refine ⟨toM (stG n 1 9 77 p (upC n l) [] ((t : Int) - 1 + 1)) (l : Int) (kindR (stG n 1 9 77 p (upC n l) [] ((t : Int) - 1 + 1))), rfl, ?_⟩
    rw [tick_sends (by omega) (by omega), send_one hl (fun j hj => (show upC n l j = _ by unfold upC; rw [decide_eq_true hj]; rfl))]
    by_cases e2 : t % 3 = 0
    · rw [if_pos (by omega), if_pos (by omega)]
    · rw [if_neg (by omega), if_neg (by omega)]
end Go.Proofs.Ytikecafblampeaa.roundEnds
