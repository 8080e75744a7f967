/- The walk of clepsydralaw10.BloomGrows: it returns true. No condition. -/
import Derived.Test.YtdhpjeenbejajaaBlmAwake
import Derived.Test.YtdhpjeenbejajaaNest
namespace Go.Proofs.Ytdhpjeenbejajaa.bloomGrows
set_option linter.unusedVariables false
set_option linter.unusedSimpArgs false
open Go.ChangeShapes Go.WideShapes Go.ChangeAt Go.RowKit

def pl (K : List Int) : List Int := placesL (hashL K) 75 7
def adds (Ks : List (Sv Int)) : List Int := Ks.foldl (fun B s => addL B (pl s.L)) (zeros 75)
theorem adds_snoc (Ks : List (Sv Int)) (s : Sv Int) : adds (Ks ++ [s]) = addL (adds Ks) (pl s.L) := by simp [adds]
theorem adds_inv (Ks : List (Sv Int)) : okB (adds Ks) ∧ (adds Ks).length = 75 ∧ onesN (adds Ks) ≤ 7 * Ks.length ∧ ∀ s ∈ Ks, hasL (adds Ks) (pl s.L) = true := by
  induction h : Ks.length generalizing Ks with
  | zero =>
    obtain rfl := List.eq_nil_of_length_eq_zero h
    exact ⟨okB_zeros 75, by simp [adds, zeros], by show onesN (zeros 75) ≤ _; rw [show onesN (zeros 75) = 0 from onesN_zeros 75]; omega, by simp⟩
  | succ n ih =>
    rcases List.eq_nil_or_concat Ks with rfl | ⟨M, s, rfl⟩
    · simp at h
    · rw [List.concat_eq_append] at *
      obtain ⟨h1, h2, h3, h4⟩ := ih M (by simpa using h)
      have hq : ∀ q ∈ pl s.L, okQ (adds M).length q := by rw [h2]; exact okQ_places (by decide)
      obtain ⟨q1, q2, q3⟩ := onesN_addL h1 hq
      have hl : (pl s.L).length = 7 := places_len _ _ _
      rw [adds_snoc]
      refine ⟨okB_addL h1 _, by rw [addL_len, h2], by omega, fun t ht => ?_⟩
      rcases List.mem_append.1 ht with ht | ht
      · exact hasL_addL h1 hq (by rw [h2]; exact okQ_places (by decide)) (h4 t ht)
      · obtain rfl : t = s := by simpa using ht
        exact hasL_self h1 hq
theorem adds_step (Ks : List (Sv Int)) (s : Sv Int) : onesN (adds Ks) ≤ onesN (adds (Ks ++ [s])) ∧ (onesN (adds (Ks ++ [s])) = onesN (adds Ks) ↔ hasL (adds Ks) (pl s.L) = true) := by
  obtain ⟨h1, h2, _⟩ := adds_inv Ks
  have hq : ∀ q ∈ pl s.L, okQ (adds Ks).length q := by rw [h2]; exact okQ_places (by decide)
  obtain ⟨q1, _, q3⟩ := onesN_addL h1 hq
  rw [adds_snoc]
  exact ⟨q1, q3⟩

set_option maxHeartbeats 1600000 in
theorem walk {w : World} (A0 : Option Addr) (c0 : Nat) (L0 : List (Sv Int)) (lc0 : L0.length ≤ c0) (cm0 : c0 ≤ maxLen) (r0 : RowAt (fun s => [s.val]) 1 w A0 L0)
    (w0 : ∀ s ∈ L0, Sv.good (fun a => [.int .u8 a]) 1 (fun a => (Lit.int .u8 a).wf = true) w s) :
    Calls Try.prog 3 #[.slice A0 L0.length c0] w fun e w' => e = .returned (.bool true) ∧ Below w.heap.size w w' := by
  have HR0 := hide r0
  have HW0 := hide w0
  clear r0 w0
  go_enter Try.func3, Try.ntmps3
  go_wp2_with fail
  refine (Calls.mono (new_yes 60 10 w ⟨by decide, by decide⟩ ⟨by decide, by decide⟩) ?_); rintro e w1 ⟨p, g, rfl, hp, hg, hF, hg1⟩
  have hk : newK 10 = 7 := by decide
  have hs : newS 60 10 = 75 := by decide
  rw [hk, hs] at hF
  have HF := hide hF
  have HB1 := hide hg1
  clear hk hs hF hg1
  go_wp2_with fail
  go_loopw [5, 6] (fun v i wr => ∃ j : Nat, j ≤ L0.length ∧ j ≤ 60 ∧ i = .int .i64 j ∧ v = .int .i64 (onesN (adds (L0.take j))) ∧ Flt wr p g 7 (adds (L0.take j)) ∧ Below w.heap.size w wr) (fun _ i _ => L0.length - (intOf i).toNat)
  case atStart => exact ⟨0, by omega, by omega, rfl, by show _ = Value.int .i64 ((onesN (zeros 75) : Nat) : Int); rw [show onesN (zeros 75) = 0 from onesN_zeros 75]; rfl, HF.out, HB1.out⟩
  case round =>
    obtain ⟨j, hj, hj60, rfl, rfl, hf, hb⟩ := hrel
    clear HF HB1
    have HF := hide hf
    have HB := hide hb
    have hinv := adds_inv (L0.take j)
    have hon := hinv.2.2.1
    have HI := hide hinv
    have htl : (L0.take j).length = j := by rw [List.length_take]; omega
    rw [htl] at hon
    clear hf hb hinv htl
    by_cases hlt : j < L0.length
    case neg =>
      generalize onesN (adds (L0.take j)) = n0 at *
      have hkn : ¬ (j : Int) < (L0.length : Int) := by omega
      go_wp2_with fail
      refine (Calls.mono (awake_any _) ?_); rintro e w9 ⟨rfl, hg9⟩
      go_wp2_with fail
      go_ret
      exact ⟨rfl, below_step HB.out hg9⟩
    have hkc : (j : Int) < (L0.length : Int) := by omega
    by_cases h60 : j < 60
    case neg =>
      generalize onesN (adds (L0.take j)) = n0 at *
      have hkn : ¬ (j : Int) < 60 := by omega
      go_wp2_with fail
      refine (Calls.mono (awake_any _) ?_); rintro e w9 ⟨rfl, hg9⟩
      go_wp2_with fail
      go_ret
      exact ⟨rfl, below_step HB.out hg9⟩
    have hkd : (j : Int) < 60 := by omega
    obtain ⟨b, off, hA, hbb, y0⟩ := RowAt.one (val := fun s : Sv Int => s.val) HR0.out HB.out hlt
    have hgood := HW0.out (L0[j]'hlt) (List.getElem_mem hlt)
    have htk : L0.take (j + 1) = L0.take j ++ [L0[j]'hlt] := take_snoc hlt
    have HTK := hide htk
    clear htk
    generalize (L0[j]'hlt) = s at *
    obtain ⟨As, cs, Ls⟩ := s
    subst hA
    by_cases h200 : 200 < Ls.length
    case pos =>
      generalize onesN (adds (L0.take j)) = n0 at *
      have hkn : (200 : Int) < (Ls.length : Int) := by omega
      go_wp2_with fail
      refine (Calls.mono (awake_any _) ?_); rintro e w9 ⟨rfl, hg9⟩
      go_wp2_with fail
      go_ret
      exact ⟨rfl, below_step HB.out hg9⟩
    have hkn : ¬ (200 : Int) < (Ls.length : Int) := by omega
    have hstep := adds_step (L0.take j) ⟨As, cs, Ls⟩
    rw [← HTK.out] at hstep
    have hon2 := (adds_inv (L0.take (j + 1))).2.2.1
    have htl : (L0.take (j + 1)).length = j + 1 := by rw [List.length_take]; omega
    rw [htl] at hon2
    have hlen := HI.out.2.1
    have HLN := hide hlen
    have hsn := adds_snoc (L0.take j) ⟨As, cs, Ls⟩
    rw [← HTK.out] at hsn
    have HSN := hide hsn
    have HGD := hide hgood
    have hbB : ∀ b ∈ Ls, isB b := fun b hb => bounds_u8 (hgood.ok b hb)
    have HBB := hide hbB
    clear htl hlen hsn hgood hbB
    have hbw : b < w.heap.size := hbb
    have hY : ∀ W : World, Below w.heap.size w W → W.cell? ⟨b, off + j, none⟩ = some (.slice As Ls.length cs) := fun W hW => (hW.cell (p := ⟨b, _, none⟩) hbw).trans ((HB.out.cell (p := ⟨b, _, none⟩) hbw).symm.trans y0)
    have HY := hide hY
    replace y0 : wr.cell? ⟨b, off + j, none⟩ = some (.slice As Ls.length cs) := y0
    clear hY hbb
    have hi2 := adds_inv (L0.take (j + 1))
    have HI2 := hide hi2
    clear hi2
    generalize hn0 : onesN (adds (L0.take j)) = n0 at *
    generalize hn1 : onesN (adds (L0.take (j + 1))) = n1 at *
    have HN1 := hide hn1
    clear hn0 hn1
    go_wp2_with fail
    refine (Calls.mono (has_any As cs Ls _ HF.out (by omega) ((HGD.out.below HB.out).row) HBB.out) ?_); rintro e w2 ⟨rfl, hg2⟩
    rw [HLN.out]
    have HF2 := hide (HF.out.below hg2)
    have HB2 := hide (below_step HB.out hg2)
    have y0 := HY.out w2 HB2.out
    clear hg2 HF HB
    obtain ⟨hs1, hs2⟩ := hstep
    have HS2 := hide hs2
    clear hs2
    have HPL : Hid (placesL (hashL Ls) 75 7 = pl Ls) := hide rfl
    rw [HPL.out]
    cases hv : hasL (adds (L0.take j)) (pl Ls)
    all_goals
      have HV := hide hv
      clear hv
      go_wp2_with fail
      refine (Calls.mono (add_any As cs Ls _ HF2.out (by omega) ((HGD.out.below HB2.out).row) HBB.out) ?_); rintro e w3 ⟨rfl, hf3, hg3⟩
      rw [HLN.out, HPL.out, ← HSN.out] at hf3
      have HF3 := hide hf3
      have HB3 : Hid (Below w.heap.size w w3) := hide (HB2.out.grown hg3 HB2.out.size (fun k hk => by injection hk with hk; omega))
      clear hf3 hg3 HF2 HB2
      go_wp2_with fail
      refine (Calls.mono (ones_any _ HF3.out) ?_); rintro e w4 ⟨rfl, hg4⟩
      rw [HN1.out]
      have HF4 := hide (HF3.out.below hg4)
      have HB4 := hide (below_step HB3.out hg4)
      clear hg4 HF3 HB3
      have d1 : decide ((n1 : Int) < n0) = false := decide_eq_false (by omega)
      have d1n : decide (n1 < n0) = false := decide_eq_false (by omega)
      have d1m : ¬ n1 < n0 := by omega
      have d2 : decide ((7 : Int) * ((j : Int) + 1) < n1) = false := decide_eq_false (by omega)
    · have d3 : ((n1 : Int) == n0) = false := beq_eq_false_iff_ne.2 (fun e => by have := HS2.out.1 (by omega); rw [HV.out] at this; cases this)
      go_wp2_with fail
      go_loopw [9] (fun k wr => ∃ m : Nat, m ≤ j + 1 ∧ k = .int .i64 m ∧ Flt wr p g 7 (adds (L0.take (j + 1))) ∧ Below w.heap.size w wr) (fun k _ => j + 1 - (intOf k).toNat)
      case atStart => exact ⟨0, by omega, rfl, HF4.out, HB4.out⟩
      case round =>
        clear HF4 HB4
        obtain ⟨m, hm, rfl, hf5, hb5⟩ := hrel
        have HF5 := hide hf5
        have HB5 := hide hb5
        clear hf5
        by_cases hmj : m ≤ j
        · have hmi : (m : Int) ≤ (j : Int) := by omega
          obtain ⟨b2, off2, hA2, hbb2, z0⟩ := RowAt.one (val := fun s : Sv Int => s.val) HR0.out hb5 (show m < L0.length by omega)
          have hin : L0[m]'(by omega) ∈ L0.take (j + 1) := by
            rw [List.mem_take_iff_getElem]
            exact ⟨m, by omega, rfl⟩
          have hh2 := HI2.out.2.2.2 _ hin
          have hgood2 := HW0.out (L0[m]'(by omega)) (List.getElem_mem _)
          generalize (L0[m]'(by omega)) = s2 at *
          obtain ⟨A2, c2, L2⟩ := s2
          injection hA2 with hA2
          injection hA2 with e1 e2 _
          subst e1 e2
          replace z0 : wr.cell? ⟨b, off + m, none⟩ = some (.slice A2 L2.length c2) := z0
          have HH2 := hide hh2
          have HG2 := hide hgood2
          have hl2 : L2.length ≤ 9223372036854775807 := Nat.le_trans hgood2.lc hgood2.cm
          clear hh2 hgood2 hin hb5
          go_wp2_with fail
          refine (Calls.mono (has_any A2 c2 L2 _ HF5.out hl2 ((HG2.out.below HB5.out).row) (fun b hb => bounds_u8 (HG2.out.ok b hb))) ?_)
          rintro e w6 ⟨rfl, hg6⟩
          have HL6 : Hid ((adds (L0.take (j + 1))).length = 75) := hide HI2.out.2.1
          rw [HL6.out, show placesL (hashL L2) 75 7 = pl L2 from rfl, HH2.out]
          have HF6 := hide (HF5.out.below hg6)
          have HB6 := hide (below_step HB5.out hg6)
          clear hg6 HF5 HB5
          go_wp2_with fail
          go_roundw
          case rel => exact ⟨m + 1, by omega, by go_num, HF6.out, HB6.out⟩
          case measure => simp [intOf]; omega
        · have hmi : ¬ (m : Int) ≤ (j : Int) := by omega
          clear hb5
          go_wp2_with fail
          go_roundw
          case rel => exact ⟨j + 1, by omega, by omega, by go_num, by rw [HN1.out], HF5.out, HB5.out⟩
          case measure => simp [intOf]; omega
    · have d3 : ((n1 : Int) == n0) = true := beq_iff_eq.2 (by have := HS2.out.2 HV.out; omega)
      go_wp2_with fail
      go_loopw [9] (fun k wr => ∃ m : Nat, m ≤ j + 1 ∧ k = .int .i64 m ∧ Flt wr p g 7 (adds (L0.take (j + 1))) ∧ Below w.heap.size w wr) (fun k _ => j + 1 - (intOf k).toNat)
      case atStart => exact ⟨0, by omega, rfl, HF4.out, HB4.out⟩
      case round =>
        clear HF4 HB4
        obtain ⟨m, hm, rfl, hf5, hb5⟩ := hrel
        have HF5 := hide hf5
        have HB5 := hide hb5
        clear hf5
        by_cases hmj : m ≤ j
        · have hmi : (m : Int) ≤ (j : Int) := by omega
          obtain ⟨b2, off2, hA2, hbb2, z0⟩ := RowAt.one (val := fun s : Sv Int => s.val) HR0.out hb5 (show m < L0.length by omega)
          have hin : L0[m]'(by omega) ∈ L0.take (j + 1) := by
            rw [List.mem_take_iff_getElem]
            exact ⟨m, by omega, rfl⟩
          have hh2 := HI2.out.2.2.2 _ hin
          have hgood2 := HW0.out (L0[m]'(by omega)) (List.getElem_mem _)
          generalize (L0[m]'(by omega)) = s2 at *
          obtain ⟨A2, c2, L2⟩ := s2
          injection hA2 with hA2
          injection hA2 with e1 e2 _
          subst e1 e2
          replace z0 : wr.cell? ⟨b, off + m, none⟩ = some (.slice A2 L2.length c2) := z0
          have HH2 := hide hh2
          have HG2 := hide hgood2
          have hl2 : L2.length ≤ 9223372036854775807 := Nat.le_trans hgood2.lc hgood2.cm
          clear hh2 hgood2 hin hb5
          go_wp2_with fail
          refine (Calls.mono (has_any A2 c2 L2 _ HF5.out hl2 ((HG2.out.below HB5.out).row) (fun b hb => bounds_u8 (HG2.out.ok b hb))) ?_)
          rintro e w6 ⟨rfl, hg6⟩
          have HL6 : Hid ((adds (L0.take (j + 1))).length = 75) := hide HI2.out.2.1
          rw [HL6.out, show placesL (hashL L2) 75 7 = pl L2 from rfl, HH2.out]
          have HF6 := hide (HF5.out.below hg6)
          have HB6 := hide (below_step HB5.out hg6)
          clear hg6 HF5 HB5
          go_wp2_with fail
          go_roundw
          case rel => exact ⟨m + 1, by omega, by go_num, HF6.out, HB6.out⟩
          case measure => simp [intOf]; omega
        · have hmi : ¬ (m : Int) ≤ (j : Int) := by omega
          clear hb5
          go_wp2_with fail
          go_roundw
          case rel => exact ⟨j + 1, by omega, by omega, by go_num, by rw [HN1.out], HF5.out, HB5.out⟩
          case measure => simp [intOf]; omega
end Go.Proofs.Ytdhpjeenbejajaa.bloomGrows
