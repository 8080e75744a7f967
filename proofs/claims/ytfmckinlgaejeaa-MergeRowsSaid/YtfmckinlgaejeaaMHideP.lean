/- Plain law for MergeHides, no program: one delete more among merged rows. -/
import Derived.Test.YtfmckinlgaejeaaMTwo
namespace Go.Proofs.Ytfmckinlgaejeaa
set_option linter.unusedVariables false
set_option linter.unusedSimpArgs false

theorem tomb_hid_aux : ∀ (L : List It) (f : Int → Option Int) (s v : Int), (∀ y ∈ L, 0 ≤ y.v) → (((L.foldl stepF f) s).isSome = true ∧ v ≤ ((L.foldl stepF f) s).getD 0 ↔ ((f s).isSome = true ∧ v ≤ (f s).getD 0) ∨ ((∃ y ∈ L, y.k = 1 ∧ y.s = s ∧ v ≤ y.v) ∨ ((∃ y ∈ L, y.k = 1 ∧ y.s = s) ∧ v ≤ (f s).getD 0)))
  | [], f, s, v, _ => by simp
  | x :: L, f, s, v, h => by
    have h0 := h x List.mem_cons_self
    have ih := tomb_hid_aux L (stepF f x) s v (fun y hy => h y (List.mem_cons_of_mem _ hy))
    rw [List.foldl_cons, ih]
    by_cases e : x.k = 1 ∧ x.s = s
    · have e1 : stepF f x s = some (max ((f s).getD 0) x.v) := by unfold stepF; rw [if_pos e]
      rw [e1]
      simp only [Option.isSome_some, Option.getD_some, true_and, List.mem_cons]
      constructor
      · rintro (h1 | h1 | h1)
        · by_cases hv : v ≤ x.v
          · exact .inr (.inl ⟨x, .inl rfl, e.1, e.2, hv⟩)
          · exact .inr (.inr ⟨⟨x, .inl rfl, e⟩, by omega⟩)
        · obtain ⟨y, hy, hk, hs, hv⟩ := h1
          exact .inr (.inl ⟨y, .inr hy, hk, hs, hv⟩)
        · by_cases hv : v ≤ x.v
          · exact .inr (.inl ⟨x, .inl rfl, e.1, e.2, hv⟩)
          · exact .inr (.inr ⟨⟨x, .inl rfl, e⟩, by have := h1.2; omega⟩)
      · rintro (h1 | ⟨y, hy, hk, hs, hv⟩ | ⟨_, h1⟩)
        · left; omega
        · rcases hy with rfl | hy
          · left; omega
          · exact .inr (.inl ⟨y, hy, hk, hs, hv⟩)
        · left; omega
    · have e1 : stepF f x s = f s := by unfold stepF; rw [if_neg e]
      rw [e1]
      simp only [List.mem_cons]
      constructor
      · rintro (h1 | ⟨y, hy, hk, hs, hv⟩ | ⟨⟨y, hy, hk⟩, hv⟩)
        · exact .inl h1
        · exact .inr (.inl ⟨y, .inr hy, hk, hs, hv⟩)
        · exact .inr (.inr ⟨⟨y, .inr hy, hk⟩, hv⟩)
      · rintro (h1 | ⟨y, hy, hk, hs, hv⟩ | ⟨⟨y, hy, hk⟩, hv⟩)
        · exact .inl h1
        · rcases hy with rfl | hy
          · exact absurd ⟨hk, hs⟩ e
          · exact .inr (.inl ⟨y, hy, hk, hs, hv⟩)
        · rcases hy with rfl | hy
          · exact absurd hk e
          · exact .inr (.inr ⟨⟨y, hy, hk⟩, hv⟩)
theorem hid_iff {L : List It} (h : ∀ y ∈ L, 0 ≤ y.v) (x : It) : hidT (tombF L) x = true ↔ x.k = 2 ∧ ∃ y ∈ L, y.k = 1 ∧ y.s = x.s ∧ x.v ≤ y.v := by
  have := tomb_hid_aux L (fun _ => none) x.s x.v h
  unfold hidT tombF
  simp only [Bool.and_eq_true, decide_eq_true_eq]
  simp only [Option.isSome_none, Bool.false_eq_true, false_and, Option.getD_none, false_or] at this
  constructor
  · rintro ⟨⟨h1, h2⟩, h3⟩
    rcases this.1 ⟨h1, h3⟩ with h4 | ⟨⟨y, hy, hk, hs⟩, h4⟩
    · exact ⟨h2, h4⟩
    · exact ⟨h2, y, hy, hk, hs, by have := h y hy; omega⟩
  · rintro ⟨h1, h2⟩
    have := this.2 (.inl h2)
    exact ⟨⟨this.1, h1⟩, this.2⟩
theorem mem_clean {L : List It} (h : ∀ y ∈ L, 0 ≤ y.v) (x : It) : x ∈ cleanL L ↔ x ∈ L ∧ ¬ (x.k = 2 ∧ ∃ y ∈ L, y.k = 1 ∧ y.s = x.s ∧ x.v ≤ y.v) := by
  unfold cleanL keepL
  rw [List.mem_filter, ← hid_iff h x]
  simp
section
variable {S U U' : List It} {t : It}
/-- A delete of t's series. -/
def tombS (t x : It) : Bool := decide (x.k = 1) && decide (x.s = t.s)
def skipN (t x : It) : Bool := decide (x.s = t.s) && (decide (x.k = 1) || decide (x.v ≤ t.v))
theorem other_mem (h : RowOf S U) (h' : RowOf (S ++ [t]) U') (ht : t.k = 1) {x : It} (hx : ¬ (x.k = 1 ∧ x.s = t.s)) : x ∈ U' ↔ x ∈ U := by
  rw [h.mem, h'.mem]
  unfold Best
  simp only [List.mem_append, List.mem_singleton]
  constructor
  · rintro ⟨hm, hb⟩
    rcases hm with hm | rfl
    · exact ⟨hm, fun y hy => hb y (.inl hy)⟩
    · exact absurd ⟨ht, rfl⟩ hx
  · rintro ⟨hm, hb⟩
    refine ⟨.inl hm, fun y hy hs => ?_⟩
    rcases hy with hy | rfl
    · exact hb y hy hs
    · exact absurd (show x.k = 1 ∧ x.s = y.s by unfold It.same at hs; omega) hx
theorem hid_more (h : RowOf S U) (h' : RowOf (S ++ [t]) U') (ht : t.k = 1) (x : It) : (∃ y ∈ U', y.k = 1 ∧ y.s = x.s ∧ x.v ≤ y.v) ↔ (∃ y ∈ U, y.k = 1 ∧ y.s = x.s ∧ x.v ≤ y.v) ∨ (t.s = x.s ∧ x.v ≤ t.v) := by
  constructor
  · rintro ⟨y, hy, hk, hs, hv⟩
    obtain ⟨hm, hb⟩ := (h'.mem y).1 hy
    rcases List.mem_append.1 hm with hm | hm
    · exact .inl ⟨y, (h.mem y).2 ⟨hm, fun z hz => hb z (List.mem_append.2 (.inl hz))⟩, hk, hs, hv⟩
    · obtain rfl := List.mem_singleton.1 hm
      exact .inr ⟨hs, hv⟩
  · rintro (⟨y, hy, hk, hs, hv⟩ | ⟨hs, hv⟩)
    · obtain ⟨hm, _⟩ := (h.mem y).1 hy
      obtain ⟨u, hu, hsu, hwu⟩ := row_best h' (List.mem_append.2 (.inl hm))
      exact ⟨u, hu, by unfold It.same at hsu; omega, by unfold It.same at hsu; omega, by unfold It.wins at hwu; omega⟩
    · obtain ⟨u, hu, hsu, hwu⟩ := row_best h' (c := t) (by simp)
      exact ⟨u, hu, by unfold It.same at hsu; omega, by unfold It.same at hsu; omega, by unfold It.wins at hwu; omega⟩
theorem clean_up {L : List It} (h : Rising L) : Rising (cleanL L) := List.Pairwise.filter _ h
theorem hides (h : RowOf S U) (h' : RowOf (S ++ [t]) U') (ht : t.k = 1) (hv : ∀ y ∈ S ++ [t], 0 ≤ y.v ∧ (y.k = 1 ∨ y.k = 2)) :
    (cleanL U').filter (fun x => !tombS t x) = (cleanL U).filter (fun x => !skipN t x) := by
  have hU : ∀ y ∈ U, 0 ≤ y.v ∧ (y.k = 1 ∨ y.k = 2) := fun y hy => hv y (List.mem_append.2 (.inl ((h.mem y).1 hy).1))
  have hU' : ∀ y ∈ U', 0 ≤ y.v ∧ (y.k = 1 ∨ y.k = 2) := fun y hy => hv y ((h'.mem y).1 hy).1
  refine rising_ext (List.Pairwise.filter _ (clean_up h'.up)) (List.Pairwise.filter _ (clean_up h.up)) fun x => ?_
  rw [List.mem_filter, List.mem_filter, mem_clean (fun y hy => (hU' y hy).1), mem_clean (fun y hy => (hU y hy).1), hid_more h h' ht x]
  unfold tombS skipN
  simp only [Bool.not_eq_true', Bool.and_eq_false_iff, Bool.or_eq_false_iff, decide_eq_false_iff_not]
  by_cases hx : x.k = 1 ∧ x.s = t.s
  · constructor
    · rintro ⟨_, h2⟩
      rcases h2 with h2 | h2
      · exact absurd hx.1 h2
      · exact absurd hx.2 h2
    · rintro ⟨_, h2⟩
      rcases h2 with h2 | h2
      · exact absurd hx.2 h2
      · exact absurd hx.1 h2.1
  · rw [other_mem h h' ht hx]
    constructor
    · rintro ⟨⟨h1, h2⟩, _⟩
      refine ⟨⟨h1, fun h3 => h2 ⟨h3.1, .inl h3.2⟩⟩, ?_⟩
      by_cases hs : x.s = t.s
      · have hk : ¬ x.k = 1 := fun e => hx ⟨e, hs⟩
        have hk2 : x.k = 2 := by rcases (hU x h1).2 with e | e; exact absurd e hk; exact e
        exact .inr ⟨hk, fun hv => h2 ⟨hk2, .inr ⟨hs.symm, hv⟩⟩⟩
      · exact .inl hs
    · rintro ⟨⟨h1, h2⟩, h3⟩
      refine ⟨⟨h1, fun h4 => ?_⟩, ?_⟩
      · rcases h4.2 with h5 | h5
        · exact h2 ⟨h4.1, h5⟩
        · rcases h3 with h3 | h3
          · exact h3 h5.1.symm
          · exact h3.2 h5.2
      · by_cases hk : x.k = 1
        · exact .inr (fun hs => hx ⟨hk, hs⟩)
        · exact .inl hk
theorem tombs_one {L : List It} (hr : Rising L) (hz : ∀ y ∈ L, y.k = 1 → y.t = 0) : (L.filter (tombS t)).length ≤ 1 := by
  have hp : Rising (L.filter (tombS t)) := List.Pairwise.filter _ hr
  match hf : L.filter (tombS t), hp with
  | [], _ => simp
  | [a], _ => simp
  | a :: b :: M, hp =>
    have ha : a ∈ L.filter (tombS t) := by rw [hf]; simp
    have hb : b ∈ L.filter (tombS t) := by rw [hf]; simp
    rw [List.mem_filter] at ha hb
    have h1 := ha.2
    have h2 := hb.2
    unfold tombS at h1 h2
    simp only [Bool.and_eq_true, decide_eq_true_eq] at h1 h2
    have h3 := hz a ha.1 h1.1
    have h4 := hz b hb.1 h2.1
    have h5 := (rising_cons.1 hp).1 b (by simp)
    unfold It.lt at h5; omega
theorem filter_parts (L : List It) (p : It → Bool) : L.length = (L.filter p).length + (L.filter fun x => !p x).length := by
  induction L with
  | nil => rfl
  | cons x L ih =>
    rw [List.filter_cons, List.filter_cons]
    cases p x <;> simp <;> omega
theorem hides_len (h : RowOf S U) (h' : RowOf (S ++ [t]) U') (ht : t.k = 1) (hv : ∀ y ∈ S ++ [t], 0 ≤ y.v ∧ (y.k = 1 ∨ y.k = 2)) (hz : ∀ y ∈ S ++ [t], y.k = 1 → y.t = 0) : (cleanL U').length ≤ (cleanL U).length + 1 := by
  have h1 := filter_parts (cleanL U') (tombS t)
  have h2 := tombs_one (t := t) (clean_up h'.up) (fun y hy => hz y ((h'.mem y).1 (clean_mem hy)).1)
  have h3 := congrArg List.length (hides h h' ht hv)
  have h4 : ((cleanL U).filter fun x => !skipN t x).length ≤ (cleanL U).length := List.length_filter_le _ _
  omega
end
theorem rk_good {L : List It} {x : It} (h : x ∈ rk L) : It.good x := by
  have hr := mrgsL_flat (((L.take 40).filter goodB).map fun x => [x]) (fun l hl => by
    obtain ⟨x, _, rfl⟩ := List.mem_map.1 hl
    exact rising_1 x)
  have := ((hr.mem x).1 h).1
  rw [List.mem_flatten] at this
  obtain ⟨l, hl, hx⟩ := this
  obtain ⟨y, hy, rfl⟩ := List.mem_map.1 hl
  obtain rfl := List.mem_singleton.1 hx
  exact of_decide_eq_true (List.mem_filter.1 hy).2
end Go.Proofs.Ytfmckinlgaejeaa
