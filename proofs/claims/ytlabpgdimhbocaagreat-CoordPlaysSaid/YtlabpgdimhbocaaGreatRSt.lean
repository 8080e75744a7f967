/- The document's states: contracts of clepsydraref5.Rises, State, Of, Join, Add. Condition: lists of at most 2^38 items. -/
import Derived.Test.YtlabpgdimhbocaaGreatRAdd
import Derived.IntWalk
namespace Go.Proofs.YtlabpgdimhbocaaGreat
set_option linter.unusedVariables false
set_option linter.unusedSimpArgs false
open Go.ChangeShapes Go.WideShapes Go.ChangeAt Go.RowKit

open Classical in
noncomputable def risB (L : List It) : Bool := decide ((∀ x ∈ L, It.good x) ∧ Rising L)
theorem ris_iff {L : List It} : risB L = true ↔ (∀ x ∈ L, It.good x) ∧ Rising L := by
  unfold risB
  simp
theorem ris_snoc {L : List It} {k : Nat} (hk : k < L.length) : risB (L.take (k + 1)) = true ↔ risB (L.take k) = true ∧ It.good L[k] ∧ ∀ h : 0 < k, It.lt (L[k - 1]'(by omega)) L[k] := by
  rw [ris_iff, ris_iff, List.take_succ_eq_append_getElem hk]
  constructor
  · rintro ⟨hg, hr⟩
    have hr' := List.pairwise_append.1 hr
    refine ⟨⟨fun x hx => hg x (List.mem_append_left _ hx), hr'.1⟩, hg _ (List.mem_append_right _ (List.mem_singleton.2 rfl)), fun h0 => ?_⟩
    refine hr'.2.2 _ ?_ _ (by simp)
    exact List.mem_take_iff_getElem.2 ⟨k - 1, by omega, rfl⟩
  · rintro ⟨⟨hg, hr⟩, hx, hlt⟩
    refine ⟨fun x hx' => ?_, List.pairwise_append.2 ⟨hr, by simp, fun a ha b hb => ?_⟩⟩
    · rcases List.mem_append.1 hx' with h | h
      · exact hg x h
      · rw [List.mem_singleton] at h; subst h; exact hx
    · rw [List.mem_singleton] at hb; subst hb
      obtain ⟨j, hj, rfl⟩ := List.getElem_of_mem ha
      have hj' : j < k := by simp at hj; omega
      have h0 := hlt (by omega)
      rw [List.getElem_take]
      by_cases e : j = k - 1
      · subst e; exact h0
      · have h2 := rising_get hr (i := j) (j := k - 1) (by omega) (by simp; omega)
        rw [List.getElem_take, List.getElem_take] at h2
        unfold It.lt at *; omega
theorem ris_take {L : List It} (k : Nat) (h : risB L = true) : risB (L.take k) = true := by
  rw [ris_iff] at *
  exact ⟨fun x hx => h.1 x (List.mem_of_mem_take hx), List.Pairwise.sublist (List.take_sublist k L) h.2⟩
theorem ris_no {L : List It} {k : Nat} (h : ¬ risB (L.take k) = true) : risB L = false := by
  cases e : risB L
  · rfl
  · exact absurd (ris_take k e) h
theorem ris_bad {L : List It} {k : Nat} (hk : k < L.length) (h : goodB L[k] = false) : risB L = false := ris_no (k := k + 1) fun e => by
  have := ((ris_snoc hk).1 e).2.1
  rw [goodB_true this] at h; cases h
theorem ris_drop {L : List It} {k : Nat} (hk : k < L.length) (h0 : 0 < k) (h : ltB (L[k - 1]'(by omega)) L[k] = false) : risB L = false := ris_no (k := k + 1) fun e => by
  have := ((ris_snoc hk).1 e).2.2 h0
  rw [ltB_true this] at h; cases h
theorem ris_on0 {L : List It} (hk : 0 < L.length) (h : goodB L[0] = true) : risB (L.take 1) = true := by
  rw [ris_snoc hk]
  exact ⟨by simp [ris_iff, Rising], by simpa [goodB] using h, fun h => absurd h (by omega)⟩
theorem ris_on' {L : List It} {k : Nat} (hk : k < L.length) (h0 : ¬ 0 < k) (h : goodB L[k] = true) : risB (L.take (k + 1)) = true := by
  obtain rfl : k = 0 := by omega
  exact ris_on0 hk h
theorem ris_on {L : List It} {k : Nat} (hk : k < L.length) (h0 : 0 < k) (hr : risB (L.take k) = true) (h : goodB L[k] = true) (hl : ltB (L[k - 1]'(by omega)) L[k] = true) : risB (L.take (k + 1)) = true := by
  rw [ris_snoc hk]
  exact ⟨hr, by simpa only [goodB, decide_eq_true_eq] using h, fun _ => by simpa only [ltB, decide_eq_true_eq] using hl⟩

set_option maxHeartbeats 3200000 in
set_option maxRecDepth 100000 in
theorem rrises_any (A : Option Addr) (c : Nat) (L : List It) (w : World) (hL : ItemsAt w A L) (hn : L.length ≤ 4611686018427387904) :
    Calls Tryz.prog 56 #[.slice A L.length c] w fun e w' => e = .returned (.bool (risB L)) ∧ Below w.heap.size w w' := by
  have HL := hide hL
  clear hL
  go_enter Tryz.func56, Tryz.ntmps56
  go_wp2_with fail
  go_loopw [3] (fun i wr => ∃ k : Nat, i = .int .i64 k ∧ k ≤ L.length ∧ Below w.heap.size w wr ∧ risB (L.take k) = true) (fun i _ => L.length - (intOf i).toNat)
  case atStart => exact ⟨0, rfl, by omega, Below.refl _ _, by simp [ris_iff, Rising]⟩
  case round =>
    obtain ⟨k, rfl, hk, hb, hr⟩ := hrel
    have HR := hide hr
    have HB := hide hb
    clear hr hb
    by_cases hlt : k < L.length
    · obtain ⟨bl, off, rfl, hbb, y0, y1, y2, y3, y4⟩ := ItemsAt.item HL.out HB.out hlt
      have hbl : bl < wr.heap.size := Nat.lt_of_lt_of_le hbb HB.out.size
      have hnc := near_cells wr
      have H1 := hide (ris_bad hlt)
      by_cases h0 : 0 < k
      · obtain ⟨bl', off', hA, hbb', z0, z1, z2, z3, z4⟩ := ItemsAt.item HL.out HB.out (k := k - 1) (by omega)
        injection hA with hA
        injection hA with hA1 hA2
        subst hA1 hA2
        have b0 : decide ((0 : Int) < (k : Int)) = true := decide_eq_true (by omega)
        have e1 : IntKind.i64.wrap ((k : Int) - 1) = (k : Int) - 1 := IntWalk.i64_in _ (by omega)
        have e2 : ((k : Int) - 1).toNat = k - 1 := by omega
        have e3 : (0 : Int) ≤ (k : Int) - 1 := by omega
        have e4 : (k : Int) - 1 < (L.length : Int) := by omega
        have H2 := hide (ris_drop hlt h0)
        have H3 := hide (ris_on hlt h0 HR.out)
        generalize L[k] = y at *
        generalize L[k - 1] = z at *
        cases hg : goodB y
        · go_wp2_with fail
          refine wp_region_near (by kernel_rfl) (by kernel_rfl) ?_
          repeat (go_big_quiet_step ((go_at_call 44; exact near_of (rgood_any y _))))
          refine wpQuiet_nil ?_
          intro _ hw'
          obtain ⟨s1, rfl⟩ := hw'
          go_wp2_with fail
          go_ret
          exact ⟨by rw [H1.out hg]; rfl, below_step HB.out s1.is⟩
        · cases hl : ltB z y
          all_goals
            go_wp2_with fail
            refine wp_region_near (by kernel_rfl) (by kernel_rfl) ?_
            repeat (go_big_quiet_step ((first | (go_at_call 44; exact near_of (rgood_any y _)) | (go_at_call 59; exact near_of (rless_any z y _)))))
            refine wpQuiet_nil ?_
            intro _ hw'
            obtain ⟨s1, rfl⟩ := hw'
            go_wp2_with fail
          · go_ret
            exact ⟨by rw [H2.out hl]; rfl, below_step HB.out s1.is⟩
          · go_roundw
            case rel => exact ⟨k + 1, by go_num, by omega, below_step HB.out s1.is, H3.out hg hl⟩
            case measure => simp [intOf]; omega
      · have b0 : decide ((0 : Int) < (k : Int)) = false := decide_eq_false (by omega)
        have H2 := hide (fun hg => ris_on' hlt h0 hg)
        generalize L[k] = y at *
        cases hg : goodB y
        all_goals
          go_wp2_with fail
          refine wp_region_near (by kernel_rfl) (by kernel_rfl) ?_
          repeat (go_big_quiet_step ((go_at_call 44; exact near_of (rgood_any y _))))
          refine wpQuiet_nil ?_
          intro _ hw'
          obtain ⟨s1, rfl⟩ := hw'
          go_wp2_with fail
        · go_ret
          exact ⟨by rw [H1.out hg]; rfl, below_step HB.out s1.is⟩
        · go_roundw
          case rel => exact ⟨k + 1, by go_num, by omega, below_step HB.out s1.is, H2.out hg⟩
          case measure => simp [intOf]; omega
    · obtain rfl : k = L.length := by omega
      have HF := hide HR.out
      go_wp2_with fail
      go_ret
      exact ⟨by rw [← HF.out, List.take_length]; rfl, HB.out⟩
end Go.Proofs.YtlabpgdimhbocaaGreat
