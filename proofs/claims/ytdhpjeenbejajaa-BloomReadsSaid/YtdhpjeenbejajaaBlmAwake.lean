/- clepsydralaw10.awake returns true: a contract. No condition. -/
import Derived.Test.YtdhpjeenbejajaaBlm4
import Derived.Test.YtdhpjeenbejajaaBlmLaw
namespace Go.Proofs.Ytdhpjeenbejajaa
set_option linter.unusedVariables false
set_option linter.unusedSimpArgs false
open Go.ChangeShapes Go.WideShapes Go.ChangeAt Go.RowKit

theorem okQ_places {h : Int} {n k : Nat} (hn : 0 < n) : ∀ q ∈ placesL h n k, okQ n q := placesL_bd hn
theorem places_len (h : Int) (n k : Nat) : (placesL h n k).length = k := by simp [placesL]
theorem places_ne {h : Int} {n k : Nat} (hk : 1 ≤ k) : placesL h n k ≠ [] := fun e => by have := places_len h n k; rw [e] at this; simp at this; omega
theorem has_new {h : Int} {n k : Nat} (hn : 0 < n) (hk : 1 ≤ k) : hasL (zeros n) (placesL h n k) = false := hasL_zeros n (places_ne hk) (okQ_places hn)

theorem x_ok : ∀ b ∈ ([120] : List Int), isB b := by intro b hb; simp at hb; subst hb; exact ⟨by decide, by decide⟩
set_option maxHeartbeats 1000000 in
theorem awake_any (w : World) : Calls Try.prog 9 #[] w fun e w' => e = .returned (.bool true) ∧ Below w.heap.size w w' := by
  go_enter Try.func9, Try.ntmps9
  go_wp2_with fail
  refine (Calls.mono (new_yes 10 10 w ⟨by decide, by decide⟩ ⟨by decide, by decide⟩) ?_); rintro e w1 ⟨p, g, rfl, hp, hg, hF, hg1⟩
  have hk : newK 10 = 7 := by decide
  have hs : newS 10 10 = 13 := by decide
  rw [hk, hs] at hF
  have hq := hF.lt
  have HF := hide hF
  have HB1 := hide hg1
  clear hk hs hF hg1
  have hcv := Go.Joins.run_convert_bytes_const_at (P := Try.prog) w1 27 5 #[.int .u8 120] 1 1 w1.heap.size rfl Try.underlying27 Try.underlying5
  go_wp2_with fail
  have hb2 : Below w1.heap.size w1 (w1.alloc (.cells #[.int .u8 120] 5 (1, 2))) := below_alloc (Below.refl _ _) _
  refine (Calls.mono (has_any (some ⟨w1.heap.size, 0, none⟩) 1 [120] _ (HF.out.below hb2) (by simp) (vals_of_block (t := 5) (fr := (1, 2)) (heap_alloc_new w1 _)) x_ok) ?_); rintro e w2 ⟨rfl, hg2⟩
  have hh : hasL (zeros 13) (placesL (hashL [120]) (zeros 13).length 7) = false := has_new (by decide) (by decide)
  rw [hh]
  have HF2 := hide ((HF.out.below hb2).below hg2)
  have HB2 := hide (below_step (below_step HB1.out hb2) hg2)
  clear hh HF hb2 hg2 hcv
  have hcv := Go.Joins.run_convert_bytes_const_at (P := Try.prog) w2 27 5 #[.int .u8 120] 1 1 w2.heap.size rfl Try.underlying27 Try.underlying5
  go_wp2_with fail
  have hb3 : Below w2.heap.size w2 (w2.alloc (.cells #[.int .u8 120] 5 (1, 2))) := below_alloc (Below.refl _ _) _
  refine (Calls.mono (add_any (some ⟨w2.heap.size, 0, none⟩) 1 [120] _ (HF2.out.below hb3) (by simp) (vals_of_block (t := 5) (fr := (1, 2)) (heap_alloc_new w2 _)) x_ok) ?_); rintro e w3 ⟨rfl, hF3, hg3⟩
  have HB3 : Hid (Below w.heap.size w w3) := hide ((HB2.out.alloc (by have := HB2.out.size; omega) _).grown hg3 (by have := HB2.out.size; simp; omega) (fun k hk => by injection hk with hk; omega))
  have hz : (zeros 13).length = 13 := by decide
  rw [hz] at hF3
  have hq : ∀ q ∈ placesL (hashL [120]) 13 7, okQ (zeros 13).length q := by rw [hz]; exact okQ_places (by decide)
  have h1 : hasL (addL (zeros 13) (placesL (hashL [120]) 13 7)) (placesL (hashL [120]) 13 7) = true := hasL_self (okB_zeros 13) hq
  obtain ⟨h2, h3, h4⟩ := onesN_addL (okB_zeros 13) hq
  have h5 : hasL (zeros 13) (placesL (hashL [120]) 13 7) = false := has_new (by decide) (by decide)
  have hl := places_len (hashL [120]) 13 7
  have hl2 : (addL (zeros 13) (placesL (hashL [120]) 13 7)).length = 13 := by rw [addL_len]; exact hz
  rw [onesN_zeros, hl] at h3
  rw [onesN_zeros, show hasL (List.replicate 13 0) (placesL (hashL [120]) 13 7) = false from h5] at h4
  have h6 : 1 ≤ onesN (addL (zeros 13) (placesL (hashL [120]) 13 7)) ∧ onesN (addL (zeros 13) (placesL (hashL [120]) 13 7)) ≤ 7 := by
    rw [Nat.zero_add] at h3
    refine ⟨?_, h3⟩
    rcases Nat.eq_zero_or_pos (onesN (addL (zeros 13) (placesL (hashL [120]) 13 7))) with e | e
    · exact absurd (h4.1 e) (by simp)
    · exact e
  have HF3 := hide hF3
  have HH := hide h1
  have HLL := hide hl2
  clear hF3 h1 h2 h3 h4 h5 hl hl2 hq hz hg3 hb3 hcv HF2 HB2
  generalize addL (zeros 13) (placesL (hashL [120]) 13 7) = C at *
  have hcv := Go.Joins.run_convert_bytes_const_at (P := Try.prog) w3 27 5 #[.int .u8 120] 1 1 w3.heap.size rfl Try.underlying27 Try.underlying5
  go_wp2_with fail
  have hb4 : Below w3.heap.size w3 (w3.alloc (.cells #[.int .u8 120] 5 (1, 2))) := below_alloc (Below.refl _ _) _
  refine (Calls.mono (has_any (some ⟨w3.heap.size, 0, none⟩) 1 [120] _ (HF3.out.below hb4) (by simp) (vals_of_block (t := 5) (fr := (1, 2)) (heap_alloc_new w3 _)) x_ok) ?_); rintro e w4 ⟨rfl, hg4⟩
  rw [HLL.out, HH.out]
  have HF4 := hide ((HF3.out.below hb4).below hg4)
  have HB4 := hide (below_step (below_step HB3.out hb4) hg4)
  clear hb4 hg4 hcv HF3 HB3
  have d1 : decide ((1 : Int) ≤ onesN C) = true := decide_eq_true (by omega)
  have d2 : decide ((onesN C : Int) ≤ 7) = true := decide_eq_true (by omega)
  go_wp2_with fail
  refine (Calls.mono (ones_any _ HF4.out) ?_); rintro e w5 ⟨rfl, hg5⟩
  have HF5 := hide (HF4.out.below hg5)
  have HB5 := hide (below_step HB4.out hg5)
  clear hg5
  go_wp2_with fail
  refine (Calls.mono (ones_any _ HF5.out) ?_); rintro e w6 ⟨rfl, hg6⟩
  have HB6 := hide (below_step HB5.out hg6)
  go_wp2_with fail
  go_ret
  exact ⟨rfl, HB6.out⟩
end Go.Proofs.Ytdhpjeenbejajaa
