/- The walk of clepsydralaw10.BloomAnyway: it returns true. No condition. -/
import Derived.Test.YtdhpjeenbejajaaBlmAdds
import Derived.Test.YtdhpjeenbejajaaBlm5
import Derived.Test.YtdhpjeenbejajaaBits
import Derived.Deep.RegionWith
namespace Go.Proofs.Ytdhpjeenbejajaa.bloomAnyway
set_option linter.unusedVariables false
set_option linter.unusedSimpArgs false
open Go.ChangeShapes Go.WideShapes Go.ChangeAt Go.RowKit

/-- The keys that the second filter has been told: all of those told, and each turned one. -/
def Turned (L : List (Sv Int)) (N t j : Nat) (Ks : List (Sv Int)) : Prop := (∀ s ∈ Ks, s ∈ L.take N) ∧ ∀ i < j, ∀ h : (i + t) % N < L.length, L[(i + t) % N]'h ∈ Ks
theorem turned_all {L : List (Sv Int)} {N t : Nat} {Ks : List (Sv Int)} (hN : N ≤ L.length) (h : Turned L N t N Ks) : addsG 34 6 Ks = addsG 34 6 (L.take N) := by
  refine addsG_same (by decide) 6 h.1 fun s hs => ?_
  obtain ⟨m, hm, rfl⟩ := List.mem_take_iff_getElem.1 hs
  have hmN : m < N := by omega
  have hlt : (m + (N - t % N)) % N < N := Nat.mod_lt _ (by omega)
  have e : ((m + (N - t % N)) % N + t) % N = m := by
    have h1 : t % N < N := Nat.mod_lt _ (by omega)
    rw [Nat.mod_add_mod]
    have h2 : m + (N - t % N) + t = m + N * (1 + t / N) := by
      have := Nat.div_add_mod t N
      rw [Nat.mul_add, Nat.mul_one]
      omega
    rw [h2, Nat.add_mul_mod_self_left, Nat.mod_eq_of_lt hmN]
  have := h.2 _ hlt (by rw [e]; omega)
  simp only [e] at this
  exact this

set_option maxHeartbeats 1600000 in
theorem walk {w : World} (A0 : Option Addr) (c0 : Nat) (L0 : List (Sv Int)) (lc0 : L0.length ≤ c0) (cm0 : c0 ≤ maxLen) (r0 : RowAt (fun s => [s.val]) 1 w A0 L0)
    (w0 : ∀ s ∈ L0, Sv.good (fun a => [.int .u8 a]) 1 (fun a => (Lit.int .u8 a).wf = true) w s) (a1 : Int) (w1 : (Lit.int .i64 a1).wf = true) :
    Calls Try.prog 4 #[.slice A0 L0.length c0, .int .i64 a1] w fun e w' => e = .returned (.bool true) ∧ Below w.heap.size w w' := by
  have HR0 := hide r0
  have HW0 := hide w0
  have hm1 := and_mask_i64 a1 8 255 (by omega) (by decide)
  obtain ⟨t, ht⟩ : ∃ t : Nat, a1 % 2 ^ 8 = (t : Int) := ⟨(a1 % 2 ^ 8).toNat, by omega⟩
  have ht2 : t ≤ 255 := by omega
  rw [ht] at hm1
  clear r0 w0 w1 ht
  obtain ⟨N, hN⟩ : ∃ N : Nat, N = min L0.length 30 := ⟨_, rfl⟩
  have hN1 : min (L0.length : Int) 30 = (N : Int) := by omega
  have hNL : N ≤ L0.length := by omega
  have hN30 : N ≤ 30 := by omega
  clear hN
  go_enter Try.func4, Try.ntmps4
  go_wp2_with fail
  refine (Calls.mono (new_yes 30 9 w ⟨by decide, by decide⟩ ⟨by decide, by decide⟩) ?_); rintro e w1 ⟨pa, ga, rfl, hpa, hga, hF, hg1⟩
  have hk : newK 9 = 6 := by decide
  have hs : newS 30 9 = 34 := by decide
  rw [hk, hs] at hF
  have hla := hF.lt
  have HF := hide hF
  have HB1 := hide hg1
  clear hF hg1
  go_wp2_with fail
  refine (Calls.mono (new_yes 30 9 w1 ⟨by decide, by decide⟩ ⟨by decide, by decide⟩) ?_); rintro e w2 ⟨pb, gb, rfl, hpb, hgb, hF, hg2⟩
  rw [hk, hs] at hF
  have HFB := hide hF
  have HFA := hide (HF.out.below hg2)
  have HB2 := hide (below_step HB1.out hg2)
  have hab : pa ≠ gb ∧ ga ≠ gb ∧ pb ≠ ga ∧ gb ≠ ga ∧ w.heap.size ≤ gb ∧ w.heap.size ≤ pb := by have := HB1.out.size; omega
  have HAB := hide hab
  clear hk hs hF hg2 HF HB1 hla hpb hgb hab
  go_wp2_with fail
  go_loopw [10] (fun i wr => ∃ (j : Nat) (Ks : List (Sv Int)), j ≤ N ∧ i = .int .i64 j ∧ Turned L0 N t j Ks ∧ Flt wr pa ga 6 (addsG 34 6 (L0.take j)) ∧ Flt wr pb gb 6 (addsG 34 6 Ks) ∧ Below w.heap.size w wr) (fun i _ => N - (intOf i).toNat)
  case atStart => exact ⟨0, [], by omega, rfl, ⟨by simp, by intro i hi; omega⟩, HFA.out, HFB.out, HB2.out⟩
  case round =>
    clear HFA HFB HB2
    obtain ⟨j, Ks, hj, rfl, hT, hfa, hfb, hb⟩ := hrel
    have HFA := hide hfa
    have HFB := hide hfb
    have HB := hide hb
    have HT := hide hT
    clear hfa hfb hT
    by_cases hlt : j < N
    · have hkc : (j : Int) < (N : Int) := by omega
      have hjL : j < L0.length := by omega
      have hkL : (j : Int) < (L0.length : Int) := by omega
      obtain ⟨b, off, hA, hbw, y0⟩ := RowAt.one (val := fun s : Sv Int => s.val) HR0.out hb hjL
      have hgood := HW0.out (L0[j]'hjL) (List.getElem_mem hjL)
      have htk : L0.take (j + 1) = L0.take j ++ [L0[j]'hjL] := take_snoc hjL
      have hin : (L0[j]'hjL) ∈ L0.take N := List.mem_take_iff_getElem.2 ⟨j, by omega, rfl⟩
      have HTK := hide htk
      have HIN := hide hin
      clear htk hin
      generalize (L0[j]'hjL) = s at *
      obtain ⟨As, cs, Ls⟩ := s
      subst hA
      have hYS : ∀ W : World, Below w.heap.size w W → W.cell? ⟨b, off + j, none⟩ = some (.slice As Ls.length cs) := fun W hW => (hW.cell (p := ⟨b, _, none⟩) hbw).trans ((hb.cell (p := ⟨b, _, none⟩) hbw).symm.trans y0)
      have HYS := hide hYS
      replace y0 : wr.cell? ⟨b, off + j, none⟩ = some (.slice As Ls.length cs) := y0
      clear hYS hb
      by_cases h200 : 200 < Ls.length
      case pos =>
        have hkn : (200 : Int) < (Ls.length : Int) := by omega
        go_wp2_with fail
        refine (Calls.mono (awake_any _) ?_); rintro e w9 ⟨rfl, hg9⟩
        go_wp2_with fail
        go_ret
        exact ⟨rfl, below_step HB.out hg9⟩
      have hkn : ¬ (200 : Int) < (Ls.length : Int) := by omega
      -- the turned one
      obtain ⟨m, hm⟩ : ∃ m, (j + t) % N = m := ⟨_, rfl⟩
      have hmN : m < N := by rw [← hm]; exact Nat.mod_lt _ (by omega)
      have hmL : m < L0.length := by omega
      have hmI : (m : Int) < (L0.length : Int) := by omega
      have hd : ((j : Int) + (t : Int)).tmod (N : Int) = (m : Int) := by
        rw [Int.tmod_eq_emod_of_nonneg (by omega), ← hm]; simp
      have hn0 : ¬ (N : Int) = 0 := by omega
      have hn1 : ((N : Int) == 0) = false := by simp; omega
      obtain ⟨b2, off2, hA2, _, z0⟩ := RowAt.one (val := fun s : Sv Int => s.val) HR0.out (Below.refl _ _) hmL
      have hgm := HW0.out (L0[m]'hmL) (List.getElem_mem hmL)
      have hinm : (L0[m]'hmL) ∈ L0.take N := List.mem_take_iff_getElem.2 ⟨m, by omega, rfl⟩
      have hTm : ∀ Ms : List (Sv Int), Turned L0 N t j Ms → Turned L0 N t (j + 1) (Ms ++ [L0[m]'hmL]) := fun Ms h => ⟨fun s hs => by
          rcases List.mem_append.1 hs with h1 | h1
          · exact h.1 s h1
          · rw [List.mem_singleton] at h1; subst h1; exact hinm, fun i hi hh => by
          rcases Nat.lt_succ_iff_lt_or_eq.1 hi with h1 | rfl
          · exact List.mem_append.2 (.inl (h.2 i h1 hh))
          · refine List.mem_append.2 (.inr ?_)
            rw [List.mem_singleton]
            simp only [hm]⟩
      have HTM := hide hTm
      clear hTm hinm hm
      generalize (L0[m]'hmL) = sm at *
      obtain ⟨Am, cm, Lm⟩ := sm
      injection hA2 with hA2
      injection hA2 with e1 e2 _
      subst e1 e2
      have hYM : ∀ W : World, Below w.heap.size w W → W.cell? ⟨b, off + m, none⟩ = some (.slice Am Lm.length cm) := fun W hW => (hW.cell (p := ⟨b, _, none⟩) hbw).trans z0
      have HYM := hide hYM
      clear hYM z0
      have HGS := hide hgood
      have HGM := hide hgm
      have hls : Ls.length ≤ 9223372036854775807 := by omega
      have hlm : Lm.length ≤ 9223372036854775807 := Nat.le_trans hgm.lc hgm.cm
      have HBS : Hid (∀ b ∈ Ls, isB b) := hide (fun b hb => bounds_u8 (HGS.out.ok b hb))
      have HBM : Hid (∀ b ∈ Lm, isB b) := hide (fun b hb => bounds_u8 (HGM.out.ok b hb))
      have HLS := hide hls
      have HLM := hide hlm
      clear hgood hgm hls hlm
      have HLA : Hid (∀ Ms, (addsG 34 6 Ms).length = 34) := hide (fun Ms => (addsG_inv (by decide) 6 Ms).2.1)
      go_wp2_with fail
      refine (Calls.mono (add_any As cs Ls _ HFA.out HLS.out ((HGS.out.below HB.out).row) HBS.out) ?_); rintro e w3 ⟨rfl, hf3, hg3⟩
      rw [HLA.out, show placesL (hashL Ls) 34 6 = plG 34 6 Ls from rfl, ← addsG_snoc 34 6 (L0.take j) ⟨As, cs, Ls⟩, ← HTK.out] at hf3
      have HFA3 := hide hf3
      have HFB3 := hide (HFB.out.grown hg3 HAB.out.2.2.1 HAB.out.2.2.2.1)
      have HB3 : Hid (Below w.heap.size w w3) := hide (HB.out.grown hg3 HB.out.size (fun k hk => by injection hk with hk; omega))
      have y0 := HYM.out w3 HB3.out
      clear hf3 hg3 HFA HFB HB
      go_wp2_with fail
      refine (Calls.mono (add_any Am cm Lm _ HFB3.out HLM.out ((HGM.out.below HB3.out).row) HBM.out) ?_); rintro e w4 ⟨rfl, hf4, hg4⟩
      rw [HLA.out, show placesL (hashL Lm) 34 6 = plG 34 6 Lm from rfl, ← addsG_snoc 34 6 Ks ⟨Am, cm, Lm⟩] at hf4
      have HT4 := hide (HTM.out _ HT.out)
      have HFB4 := hide hf4
      have HFA4 := hide (HFA3.out.grown hg4 HAB.out.1 HAB.out.2.1)
      have HB4 : Hid (Below w.heap.size w w4) := hide (HB3.out.grown hg4 HB3.out.size (fun k hk => by injection hk with hk; have := HAB.out; omega))
      have y0 := HYS.out w4 HB4.out
      clear hf4 hg4 HFA3 HFB3 HB3 HT
      by_cases h3 : j % 3 = 0
      · have d3 : ((j : Int).tmod 3 == 0) = true := by rw [Int.tmod_eq_emod_of_nonneg (by omega)]; simp; omega
        go_wp2_with fail
        refine (Calls.mono (add_any As cs Ls _ HFB4.out HLS.out ((HGS.out.below HB4.out).row) HBS.out) ?_); rintro e w5 ⟨rfl, hf5, hg5⟩
        rw [HLA.out, show placesL (hashL Ls) 34 6 = plG 34 6 Ls from rfl, ← addsG_snoc 34 6 _ ⟨As, cs, Ls⟩] at hf5
        have HFB5 := hide hf5
        have HFA5 := hide (HFA4.out.grown hg5 HAB.out.1 HAB.out.2.1)
        have HB5 : Hid (Below w.heap.size w w5) := hide (HB4.out.grown hg5 HB4.out.size (fun k hk => by injection hk with hk; have := HAB.out; omega))
        have HT5 : Hid (Turned L0 N t (j + 1) (Ks ++ [⟨Am, cm, Lm⟩] ++ [⟨As, cs, Ls⟩])) := hide ⟨fun s hs => by
          rcases List.mem_append.1 hs with h1 | h1
          · exact HT4.out.1 s h1
          · rw [List.mem_singleton] at h1; subst h1; exact HIN.out, fun i hi hh => List.mem_append.2 (.inl (HT4.out.2 i hi hh))⟩
        clear hf5 hg5
        go_wp2_with fail
        go_roundw
        case rel => exact ⟨j + 1, _, by omega, by go_num, HT5.out, HFA5.out, HFB5.out, HB5.out⟩
        case measure => simp [intOf]; omega
      · have d3 : ((j : Int).tmod 3 == 0) = false := by rw [Int.tmod_eq_emod_of_nonneg (by omega)]; simp; omega
        go_wp2_with fail
        go_roundw
        case rel => exact ⟨j + 1, _, by omega, by go_num, HT4.out, HFA4.out, HFB4.out, HB4.out⟩
        case measure => simp [intOf]; omega
    · have hkn : ¬ (j : Int) < (N : Int) := by omega
      obtain rfl : j = N := by omega
      have he := turned_all hNL HT.out
      have hfb := HFB.out
      rw [he] at hfb
      replace HFB := hide hfb
      clear hfb he hb
      generalize addsG 34 6 (L0.take j) = C at *
      have hne : bytesL 6 C ≠ [] := fun e => by
        have h1 := HFA.out.len
        have h2 : C = [] := by unfold bytesL at e; exact (List.append_eq_nil_iff.1 e).2
        rw [h2] at h1
        simp at h1
      have HNE := hide hne
      clear hne
      go_wp2_with fail
      have hdr : Below wr.heap.size wr wr.drew := (Below.refl _ _).drew
      have HBd := hide (below_step HB.out hdr)
      have HFAd := hide (HFA.out.below hdr)
      have HFBd := hide (HFB.out.below hdr)
      clear hdr HB HFA HFB HT
      go_region_with (first
        | (go_at_call 13; refine (Calls.mono (bytes_any _ HFAd.out) ?_); rintro e w5 ⟨v5, rfl, ho5, hg5⟩; obtain ⟨A5, c5, e5, hr5, _, _⟩ := ho5.vals; subst e5; have HB5 := hide (below_step HBd.out hg5); have HFA5 := hide (HFAd.out.below hg5); have HFB5 := hide (HFBd.out.below hg5); have HV5 := hide hr5; have hcv5 := conv_vals (c := c5) hr5 HNE.out; clear hg5 hr5 ho5)
        | (go_at_call 13; refine (Calls.mono (bytes_any _ HFB5.out) ?_); rintro e w6 ⟨v6, rfl, ho6, hg6⟩; obtain ⟨A6, c6, e6, hr6, _, _⟩ := ho6.vals; subst e6; have HB6 := hide (below_step HB5.out hg6); have HFA6 := hide (HFA5.out.below hg6); have HFB6 := hide (HFB5.out.below hg6); have hcv56 := conv_vals (c := c5) (HV5.out.below hg6) HNE.out; have hcv6 := conv_vals (c := c6) hr6 HNE.out; clear hg6 hr6 ho6)
        | (go_at_call 12; refine (Calls.mono (ones_any _ HFA6.out) ?_); rintro e w7 ⟨rfl, hg7⟩; have HB7 := hide (below_step HB6.out hg7); have HFB7 := hide (HFB6.out.below hg7); clear hg7)
        | (go_at_call 12; refine (Calls.mono (ones_any _ HFB7.out) ?_); rintro e w8 ⟨rfl, hg8⟩; have HB8 := hide (below_step HB7.out hg8); clear hg8)
        | (go_at_call 9; refine (Calls.mono (awake_any _) ?_); rintro e w9 ⟨rfl, hg9⟩; have HB9 := hide (below_step HB8.out hg9); clear hg9))
      all_goals
        go_wp2_with fail
        go_ret
        exact ⟨rfl, HB9.out⟩
end Go.Proofs.Ytdhpjeenbejajaa.bloomAnyway
