/- The walk of clepsydralaw10.BloomReads: it returns true. No condition. (UNDER WAY) -/
import Derived.Test.YtdhpjeenbejajaaRRead
import Derived.Test.YtdhpjeenbejajaaOnesL
import Derived.Test.YtdhpjeenbejajaaHeld
import Derived.Test.YtdhpjeenbejajaaTakePut
import Derived.Test.YtdhpjeenbejajaaBits
import Derived.Test.YtdhpjeenbejajaaCutApp
import Derived.Deep.CutBlock
import Derived.Deep.DeepCutAuto
namespace Go.Proofs.Ytdhpjeenbejajaa.bloomReads
set_option linter.unusedVariables false
set_option linter.unusedSimpArgs false
open Go.ChangeShapes Go.WideShapes Go.ChangeAt Go.RowKit

theorem putAux_isB (f : Nat) {x : Int} (h0 : 0 ≤ x) : ∀ b ∈ putAux f x, isB b := by
  induction f generalizing x with
  | zero => simp [putAux]
  | succ f ih =>
    rw [putAux]
    split
    · intro b hb; simp at hb; subst hb; unfold isB; omega
    · intro b hb
      rcases List.mem_cons.1 hb with rfl | hb
      · rw [or128]; unfold isB; omega
      · exact ih (by omega) b hb
theorem bytesL_isB {k : Nat} {B : List Int} (hB : ∀ b ∈ B, isB b) : ∀ b ∈ bytesL k B, isB b := by
  intro b hb
  unfold bytesL at hb
  rcases List.mem_append.1 hb with hb | hb
  · rcases List.mem_append.1 hb with hb | hb
    · exact putAux_isB 11 (by omega) b hb
    · exact putAux_isB 11 (by omega) b hb
  · exact hB b hb
set_option maxHeartbeats 8000000 in
set_option maxRecDepth 100000 in
theorem walk {w : World} (A0 : Option Addr) (c0 : Nat) (L0 : List Int) (lc0 : L0.length ≤ c0) (cm0 : c0 ≤ maxLen) (r0 : RowAt (fun a => [.int .u8 a]) 1 w A0 L0) (w0 : ∀ a ∈ L0, (Lit.int .u8 a).wf = true)
    (A1 : Option Addr) (c1 : Nat) (L1 : List (Sv Int)) (lc1 : L1.length ≤ c1) (cm1 : c1 ≤ maxLen) (r1 : RowAt (fun s => [s.val]) 1 w A1 L1)
    (w1 : ∀ s ∈ L1, Sv.good (fun a => [.int .u8 a]) 1 (fun a => (Lit.int .u8 a).wf = true) w s)
    (a2 : Int) (w2 : (Lit.int .i64 a2).wf = true) (a3 : Int) (w3 : (Lit.int .u8 a3).wf = true) (a4 : Int) (w4 : (Lit.int .i64 a4).wf = true)
    (A5 : Option Addr) (c5 : Nat) (L5 : List Int) (lc5 : L5.length ≤ c5) (cm5 : c5 ≤ maxLen) (r5 : RowAt (fun a => [.int .u8 a]) 1 w A5 L5) (w5 : ∀ a ∈ L5, (Lit.int .u8 a).wf = true) :
    Calls Try.prog 7 #[.slice A0 L0.length c0, .slice A1 L1.length c1, .int .i64 a2, .int .u8 a3, .int .i64 a4, .slice A5 L5.length c5] w fun e w' => e = .returned (.bool true) ∧ Below w.heap.size w w' := by
  have HR0 := hide r0
  have HB0 : Hid (∀ b ∈ L0, isB b) := hide (fun b hb => bounds_u8 (w0 b hb))
  have HR1 := hide r1
  have HW1 := hide w1
  have HR5 := hide r5
  have HB5 : Hid (∀ b ∈ L5, isB b) := hide (fun b hb => bounds_u8 (w5 b hb))
  have hb3 := bounds_u8 w3
  have HM2 := hide (and_mask_i64 a2 16 65535 (by omega) (by decide))
  have HM4 := hide (and_mask_i64 a4 8 255 (by omega) (by decide))
  clear r0 w0 r1 w1 w2 w3 w4 r5 w5
  by_cases h3000 : 3000 < L0.length
  case pos =>
    have d0 : (3000 : Int) < (L0.length : Int) := by omega
    go_enter Try.func7, Try.ntmps7
    go_wp2_with fail
    refine (Calls.mono (awake_any _) ?_); rintro e w9 ⟨rfl, hg9⟩
    go_wp2_with fail
    go_ret
    exact ⟨rfl, hg9⟩
  have d0 : ¬ (3000 : Int) < (L0.length : Int) := by omega
  by_cases h50 : 50 < L5.length
  case pos =>
    have d1 : (50 : Int) < (L5.length : Int) := by omega
    go_enter Try.func7, Try.ntmps7
    go_wp2_with fail
    refine (Calls.mono (awake_any _) ?_); rintro e w9 ⟨rfl, hg9⟩
    go_wp2_with fail
    go_ret
    exact ⟨rfl, hg9⟩
  have d1 : ¬ (50 : Int) < (L5.length : Int) := by omega
  go_enter Try.func7, Try.ntmps7
  go_wp2_with fail
  refine (Calls.mono (newf_yes 20 8 w ⟨by decide, by decide⟩ ⟨by decide, by decide⟩) ?_); rintro e w1 ⟨p, g, rfl, hp, hg, hF, hg1⟩
  have hk : newK 8 = 5 := by decide
  have hs : newS 20 8 = 20 := by decide
  rw [hk, hs] at hF
  have HF := hide hF
  have HB1 := hide hg1
  clear hk hs hF hg1
  obtain ⟨N, hN⟩ : ∃ N, N = min L1.length 20 := ⟨_, rfl⟩
  have hNL : N ≤ L1.length := by omega
  have HNN := hide hN
  clear hN
  go_upto_block 0 with fail
  go_cut [14] (fun _ W => ∃ C : List Int, RFlt W p g 5 C ∧ C.length = 20 ∧ Below w.heap.size w W)
  case first =>
    go_wp2_with fail
    go_loopw [14] (fun i wr => ∃ j : Nat, j ≤ N ∧ i = .int .i64 j ∧ RFlt wr p g 5 (addsG 20 5 (L1.take j)) ∧ Below w.heap.size w wr) (fun i _ => N - (intOf i).toNat)
    case atStart => exact ⟨0, by omega, rfl, HF.out, HB1.out⟩
    case round =>
      clear HF HB1
      obtain ⟨j, hj, rfl, hf, hb⟩ := hrel
      have HF := hide hf
      have HB := hide hb
      clear hf
      by_cases hlt : j < N
      · have hjL : j < L1.length := by omega
        have hkc : (j : Int) < (L1.length : Int) := by omega
        have hkd : (j : Int) < 20 := by have := HNN.out; omega
        obtain ⟨b, off, hA, hbw, y0⟩ := RowAt.one (val := fun s : Sv Int => s.val) HR1.out hb hjL
        have hgood := HW1.out (L1[j]'hjL) (List.getElem_mem hjL)
        have htk : L1.take (j + 1) = L1.take j ++ [L1[j]'hjL] := take_snoc hjL
        have HTK := hide htk
        clear htk
        generalize (L1[j]'hjL) = s at *
        obtain ⟨As, cs, Ls⟩ := s
        subst hA
        replace y0 : wr.cell? ⟨b, off + j, none⟩ = some (.slice As Ls.length cs) := y0
        clear hb
        have HGD := hide hgood
        have HBS : Hid (∀ b ∈ Ls, isB b) := hide (fun b hb => bounds_u8 (HGD.out.ok b hb))
        have HLS : Hid (Ls.length ≤ 9223372036854775807) := hide (Nat.le_trans hgood.lc hgood.cm)
        have HLA : Hid (∀ Ms, (addsG 20 5 Ms).length = 20) := hide (fun Ms => (addsG_inv (by decide) 5 Ms).2.1)
        have hcv := conv_bytes (c := cs) ((HGD.out.below HB.out).row)
        clear hgood
        go_wp2_with fail
        refine (Calls.mono (radd_any Ls _ HF.out HLS.out HBS.out) ?_); rintro e w4 ⟨rfl, hf4, hg4⟩
        rw [HLA.out, show placesL (hashL Ls) 20 5 = plG 20 5 Ls from rfl, ← addsG_snoc 20 5 (L1.take j) ⟨As, cs, Ls⟩, ← HTK.out] at hf4
        have HF4 := hide hf4
        have HB4 : Hid (Below w.heap.size w w4) := hide (HB.out.grown hg4 HB.out.size (fun k hk => by injection hk with hk; omega))
        clear hf4 hg4 HF HB
        go_wp2_with fail
        go_roundw
        case rel => exact ⟨j + 1, by omega, by go_num, HF4.out, HB4.out⟩
        case measure => simp [intOf]; omega
      · obtain rfl : j = N := by omega
        have hinv := addsG_inv (S := 20) (by decide) 5 (L1.take j)
        have HCL : Hid ((addsG 20 5 (L1.take j)).length = 20) := hide hinv.2.1
        clear hb hinv
        by_cases hJL : j < L1.length
        · have hkc : (j : Int) < (L1.length : Int) := by omega
          have hkd : ¬ (j : Int) < 20 := by have := HNN.out; omega
          go_wp2_with fail
          go_meet
          case rel => exact ⟨_, HF.out, HCL.out, HB.out⟩
        · have hkc : ¬ (j : Int) < (L1.length : Int) := by omega
          go_wp2_with fail
          go_meet
          case rel => exact ⟨_, HF.out, HCL.out, HB.out⟩
  case rest =>
    clear HF HB1 HR1 HW1 HNN
    obtain ⟨C, hF, hCL, hb⟩ := hcut
    have HF := hide hF
    have HB := hide hb
    clear hF hb
    obtain ⟨X, hX⟩ : ∃ X, bytesL 5 C = X := ⟨_, rfl⟩
    have hXl : 20 ≤ X.length ∧ X.length ≤ 42 := by
      have h1 := putL_len ((5 : Nat) : Int); have h2 := putL_len C.length
      rw [hCL] at h2
      rw [← hX]
      unfold bytesL
      rw [List.length_append, List.length_append, hCL]
      omega
    have HXE := hide hX
    have HXB : Hid (∀ b ∈ X, isB b) := hide (by rw [← hX]; exact bytesL_isB HF.out.byt)
    clear hX hCL
    go_wp2_with fail
    refine (Calls.mono (rbytes_any _ HF.out) ?_); rintro e w2 ⟨rfl, hg2⟩
    rw [HXE.out]
    have HB2 := hide (below_step HB.out hg2)
    obtain ⟨gc, nm, w3, hcv, hb3, hx3, hgl, hgm, hnm⟩ := str_bytes_at X HXB.out (by omega) w2
    rw [hnm] at hx3
    clear hnm nm
    have hgb : w.heap.size ≤ w2.heap.size := HB2.out.size
    obtain ⟨gb, hgbe⟩ : ∃ gb, w2.heap.size = gb := ⟨_, rfl⟩
    have HB3 := hide (below_step HB2.out hb3)
    rw [hgbe] at hcv hx3 hgb
    have hgb3 : gb < w3.heap.size := (Array.getElem?_eq_some_iff.1 hx3).1
    have hmB : 0 ≤ bits .and .i64 a2 65535 := by rw [HM2.out]; omega
    have hXp : (0 : Int) < X.length := by omega
    have hX0 : ¬ (X.length : Int) = 0 := by omega
    obtain ⟨m, hm⟩ : ∃ m : Nat, (bits .and .i64 a2 65535).tmod (X.length : Int) = m := ⟨_, (Int.toNat_of_nonneg (Int.tmod_nonneg _ hmB)).symm⟩
    have hmX : (m : Int) < X.length := by rw [← hm]; exact Int.tmod_lt_of_pos _ hXp
    have hmN : m < X.length := by omega
    have y0 : w3.cell? ⟨gb, m, none⟩ = some (.int .u8 (X[m]'hmN)) := by
      have := (blk_vals hx3).list (j := m) (u := .int .u8 (X[m]'hmN)) (by simp [hmN])
      simpa using this
    have yf : w3.frozen? ⟨gb, m, none⟩ = false := blk_free hx3 (by omega)
    generalize X[m]'hmN = x0 at y0
    have hxo := xor_isB x0 a3
    obtain ⟨y, hy⟩ : ∃ y, bits .xor .u8 x0 a3 = y := ⟨_, rfl⟩
    rw [hy] at hxo
    have hx4 := blk_set hx3 hmN y
    have hB4 : Below w.heap.size w (w3.setCell ⟨gb, m, none⟩ (.int .u8 y)) := HB3.out.grown (grownBy_setCell w3 gb m _) HB3.out.size (fun k hk => by injection hk with hk; omega)
    have hmB4 : 0 ≤ bits .and .i64 a4 255 := by rw [HM4.out]; omega
    obtain ⟨q, hq⟩ : ∃ q : Nat, (bits .and .i64 a4 255).tmod ((X.length : Int) + 1) = q := ⟨_, (Int.toNat_of_nonneg (Int.tmod_nonneg _ hmB4)).symm⟩
    have hqX : (q : Int) < X.length + 1 := by rw [← hq]; exact Int.tmod_lt_of_pos _ (by omega)
    have hX1 : ¬ (X.length : Int) + 1 = 0 := by omega
    obtain ⟨K, hK⟩ : ∃ K : Nat, (X.length : Int) - q = K := ⟨(X.length - q), by omega⟩
    have hKX : K ≤ X.length := by omega
    have hKg : (K : Int) ≤ gc := by omega
    have hEL : ((X.set m y).take K).length = K := by simp; omega
    have hEB : ∀ b ∈ (X.set m y).take K, isB b := fun b hb => by
      rcases List.mem_or_eq_of_mem_set (List.mem_of_mem_take hb) with h | h
      · exact HXB.out b h
      · rw [h]; exact hxo
    have hgbs : gb < (w3.setCell ⟨gb, m, none⟩ (.int .u8 y)).heap.size := by simpa using hgb3
    have hEV := (blk_vals hx4).take hgbs K
    generalize hE : (X.set m y).take K = E at hEL hEB hEV
    have HEV := hide hEV
    have HEB := hide hEB
    have HEL := hide hEL
    have HX4 := hide hx4
    have HB4 := hide hB4
    have hKg2 : K ≤ gc := by omega
    clear hE hEV hEB hEL hx4 hB4 hx3 hb3 hmB hmB4 hg2 HF HXE
    have HR5b : Hid (ValsAt u8v (w3.setCell ⟨gb, m, none⟩ (.int .u8 y)) A5 L5) := hide (HR5.out.below HB4.out)
    have hl5 : L5.length ≤ 50 := by omega
    have HSM : Hid (∀ j, j < gc → ((w3.setCell ⟨gb, m, none⟩ (.int .u8 y)).cell? ⟨gb, j, none⟩).isSome = true) := hide (fun j hj => blk_some HX4.out hj)
    have HFR : Hid (∀ j, j < gc → (w3.setCell ⟨gb, m, none⟩ (.int .u8 y)).frozen? ⟨gb, j, none⟩ = false) := hide (fun j hj => blk_free HX4.out hj)
    obtain ⟨D, hD⟩ : ∃ D, E ++ L5 = D := ⟨_, rfl⟩
    have HDE := hide hD
    clear HR5 HX4 HM2 HM4 hD
    go_wp2_with (at_builtin; refine wpList_append_cut rfl (.tmp 72) (.tmp 73) 27 5 _ 1 rfl Try.underlying27 Try.infoU8 rfl (fun _ => rfl) (by decide) gb gc K E rfl HEL.out.symm hgbs HEV.out HSM.out HFR.out (by rw [HEL.out]; exact hKg2) hgm A5 c5 L5 rfl HR5b.out (by rw [HEL.out]; omega) D HDE.out ?_; intro g' c' w5 hv5 hg5 hc5 hc5'; have HV5 := hide hv5; have HG5 := hide hg5; have HC5 := hide hc5; clear hv5 hg5 hc5)
    have hB5 : Below w.heap.size w w5 := HB4.out.grown HG5.out HB4.out.size (fun k hk => by injection hk with hk; omega)
    have hDB : ∀ b ∈ D, isB b := fun b hb => by
      rw [← HDE.out] at hb
      rcases List.mem_append.1 hb with h | h
      · exact HEB.out b h
      · exact HB5.out b h
    have hDl : D.length ≤ 3000 := by rw [← HDE.out, List.length_append, HEL.out]; omega
    have hDc : D.length ≤ c' := HC5.out
    have hDV := HV5.out
    have hr0 : ValsAt u8v w5 A0 L0 := HR0.out.below hB5
    have HDV := hide hDV
    have HDB := hide hDB
    have HDC := hide hDc
    have HDL := hide hDl
    have HR00 := hide hr0
    have HBW := hide hB5
    have HL0 : Hid (L0.length ≤ 3000 ∧ L0.length ≤ c0 ∧ c0 ≤ maxLen) := hide ⟨by omega, lc0, cm0⟩
    have HCM : Hid (c' ≤ maxLen) := hide hc5'
    clear HDE hDV hDB hDc hDl hr0 hB5 HV5 HG5 HC5 HSM HFR HR5b HB4 HEL HEB HEV hgbs HR0 hcv hgl hgm hgb hgb3 hXp hX0 hm hmX hmN y0 yf hxo hy hq hqX hX1 hK hKX hKg hKg2 hl5 HXB hXl HB2 HB3 HB lc0 cm0 hc5' d0 d1 h3000 h50 hgbe
    go_loopw [0, 16] (fun v i wr => ∃ (j : Nat) (A : Option Addr) (c : Nat) (L : List Int), j ≤ 2 ∧ i = .int .i64 j ∧ v = .slice A L.length c ∧ L.length ≤ c ∧ c ≤ maxLen ∧ L.length ≤ 3000 ∧ ValsAt u8v wr A L ∧ (∀ b ∈ L, isB b) ∧ Below w5.heap.size w5 wr) (fun _ i _ => 2 - (intOf i).toNat)
    case atStart => exact ⟨0, A0, c0, L0, by omega, rfl, rfl, HL0.out.2.1, HL0.out.2.2, HL0.out.1, HR00.out, HB0.out, Below.refl _ _⟩
    case round =>
      obtain ⟨j, A, c, L, hj, rfl, rfl, hlc, hcm, hll, hv, hB, hb⟩ := hrel
      have HV := hide hv
      have HB := hide hB
      have HBB := hide hb
      clear hv hB hb
      by_cases hlt : j < 2
      · have hjd : (j : Int) < 2 := by omega
        go_upto_if 80 with fail
        go_cut [0] (fun v W => W = wr ∧ ∃ (A : Option Addr) (c : Nat) (L : List Int), v = .slice A L.length c ∧ L.length ≤ c ∧ c ≤ maxLen ∧ L.length ≤ 3000 ∧ ValsAt u8v wr A L ∧ (∀ b ∈ L, isB b))
        case first =>
          by_cases hj1 : j = 1
          · subst hj1
            go_wp2_with fail
            go_meet
            case rel => exact ⟨rfl, _, _, _, rfl, HDC.out, HCM.out, HDL.out, HDV.out.below HBB.out, HDB.out⟩
          · have hjn : ¬ (j : Int) = 1 := by omega
            have hjn2 : ((j : Int) == 1) = false := by simp [hjn]
            go_wp2_with fail
            go_meet
            case rel => exact ⟨rfl, _, _, _, rfl, hlc, hcm, hll, HV.out, HB.out⟩
        case rest =>
          clear HV HB hlc hcm hll
          obtain ⟨rfl, A, c, L, rfl, hlc, hcm, hll, hv, hB⟩ := hcut
          have HBV := hide hv
          have HBB2 := hide hB
          clear hv hB
          have hrd := fun W => read_any A c L W (by omega) hlc hcm
          have hrr := fun W => rread_any L W (by omega) HBB2.out
          have HRD := hide (fun W h => read_any A c L W (by omega) hlc hcm h HBB2.out)
          have HRR := hide (fun W => rread_any L W (by omega) HBB2.out)
          clear hrd hrr
          obtain ⟨E0, hE0⟩ : ∃ E0, readE L = E0 := ⟨_, rfl⟩
          rw [hE0] at HRD HRR
          generalize hr : rdR L = R at HRD HRR
          generalize (takeL L).1 = tk at HRD HRR
          by_cases he : E0 = 0
          case neg =>
            have hen : (E0 != 0) = true := by simp [he]
            go_wp2_with fail
            refine (Calls.mono (HRD.out _ HBV.out) ?_); rintro e w6 ⟨hg6, h6⟩
            obtain ⟨_, rfl⟩ : E0 ≠ 0 ∧ e = .returned (.tuple #[.pointer none, .int .i64 E0]) := by
              rcases h6 with h6 | h6
              · exact h6
              · exact absurd h6.1 he
            have HB6 := hide (below_step HBB.out hg6)
            have HV6 := hide (HBV.out.below hg6)
            have hcv := conv_bytes (c := c) HV6.out
            clear h6 hg6 HBB HBV
            go_wp2_with fail
            refine (Calls.mono (HRR.out _) ?_); rintro e w7 ⟨hg7, h7⟩
            obtain ⟨_, rfl⟩ : E0 ≠ 0 ∧ e = .returned (.tuple #[.pointer none, .int .i64 E0]) := by
              rcases h7 with h7 | h7
              · exact h7
              · exact absurd h7.1 he
            have HB7 := hide (below_step HB6.out hg7)
            have HV7 := hide (HV6.out.below hg7)
            clear h7 hg7 hcv
            go_wp2_with fail
            go_roundw
            case rel => exact ⟨j + 1, A, c, L, by omega, by go_num, rfl, hlc, hcm, hll, HV7.out, HBB2.out, HB7.out⟩
            case measure => simp [intOf]; omega
          case pos =>
            subst he
            go_wp2_with fail
            refine (Calls.mono (HRD.out _ HBV.out) ?_); rintro e w6 ⟨hg6, h6⟩
            obtain ⟨_, pf, gf, cf, kf, rfl, _, hkf, hF6⟩ : (0 : Int) = 0 ∧ ∃ (p g gc k : Nat), e = .returned (.tuple #[.pointer (some ⟨p, 0, none⟩), .int .i64 0]) ∧ wc.heap.size ≤ p ∧ (k : Int) = tk ∧ Fv w6 p g gc k R := by
              rcases h6 with h6 | h6
              · exact absurd rfl h6.1
              · exact ⟨rfl, h6.2⟩
            have HB6 := hide (below_step HBB.out hg6)
            have HV6 := hide (HBV.out.below hg6)
            have hcv := conv_bytes (c := c) HV6.out
            have HF6 := hide hF6
            clear h6 hg6 HBB HBV hF6
            go_wp2_with fail
            refine (Calls.mono (HRR.out _) ?_); rintro e w7 ⟨hg7, h7⟩
            obtain ⟨_, pq, gq, cq, kq, rfl, _, hkq, hF7⟩ : (0 : Int) = 0 ∧ ∃ (p g gc k : Nat), e = .returned (.tuple #[.pointer (some ⟨p, 0, none⟩), .int .i64 0]) ∧ w6.heap.size ≤ p ∧ (k : Int) = tk ∧ Fv w7 p g gc k R := by
              rcases h7 with h7 | h7
              · exact absurd rfl h7.1
              · exact ⟨rfl, h7.2⟩
            obtain rfl : kf = kq := by omega
            have HBx0 := hide (below_step HB6.out hg7)
            have HVx0 := hide (HV6.out.below hg7)
            have HFx0 := hide (HF6.out.below hg7)
            have HQx0 := hide hF7
            clear h7 hg7 hcv hF7 HV6 HF6 HB6 hkf hkq HRD HRR
            go_wp2_with fail
            -- REGION 21
            have hdr := (Below.refl w7.heap.size w7).drew
            have HBx0 := hide (below_step HBx0.out hdr)
            have HFx0 := hide (HFx0.out.below hdr)
            have HQx0 := hide (HQx0.out.below hdr)
            have HVx0 := hide (HVx0.out.below hdr)
            clear hdr
            have HRL : Hid (R.length ≤ 100000) := hide (by have := HFx0.out.len; omega)
            have HKB : Hid (∀ b ∈ ([107] : List Int), isB b) := hide (by intro b hb; simp at hb; subst hb; exact ⟨by decide, by decide⟩)
            have HK7 : Hid (strOfNums [107] = ⟨#[107]⟩) := hide rfl
            obtain ⟨z, hz⟩ : ∃ z, hasL R (placesL (hashL [107]) R.length kf) = z := ⟨_, rfl⟩
            have HZ := hide hz
            clear hz
            refine bel_start (by kernel_rfl) ?_
            refine' bel_take (i := 0) (v := _) ?hi0 (by kernel_rfl) (by kernel_rfl) (by kernel_rfl) (Or.inl ⟨?hw0, ?hy0⟩) ?rest0
            case hi0 => (simp only [List.getElem?_toArray, List.getElem?_cons_succ, List.getElem?_cons_zero]; rfl)
            case hw0 => rfl
            case hy0 => (intro w' hw'; go_simp; try with_reducible rfl)
            try simp only [Act.put, List.setIfInBounds_toArray, List.set_cons_zero, List.set_cons_succ]
            refine' bel_take (i := 2) (v := _) ?hi2 (by kernel_rfl) (by kernel_rfl) (by kernel_rfl) (Or.inl ⟨?hw2, ?hy2⟩) ?rest2
            case hi2 => (simp only [List.getElem?_toArray, List.getElem?_cons_succ, List.getElem?_cons_zero]; rfl)
            case hw2 => rfl
            case hy2 => (intro w' hw'; go_simp; try with_reducible rfl)
            try simp only [Act.put, List.setIfInBounds_toArray, List.set_cons_zero, List.set_cons_succ]
            refine' bel_take (i := 3) (v := _) ?hi3 (by kernel_rfl) (by kernel_rfl) (by kernel_rfl) (Or.inl ⟨?hw3, ?hy3⟩) ?rest3
            case hi3 => (simp only [List.getElem?_toArray, List.getElem?_cons_succ, List.getElem?_cons_zero]; rfl)
            case hw3 => rfl
            case hy3 => (intro w' hw'; go_simp; try with_reducible rfl)
            try simp only [Act.put, List.setIfInBounds_toArray, List.set_cons_zero, List.set_cons_succ]
            refine' bel_take (i := 4) (v := _) ?hi4 (by kernel_rfl) (by kernel_rfl) (by kernel_rfl) (Or.inl ⟨?hw4, ?hy4⟩) ?rest4
            case hi4 => (simp only [List.getElem?_toArray, List.getElem?_cons_succ, List.getElem?_cons_zero]; rfl)
            case hw4 => rfl
            case hy4 => (intro w' hw'; go_simp; try with_reducible rfl)
            try simp only [Act.put, List.setIfInBounds_toArray, List.set_cons_zero, List.set_cons_succ]
            refine' bel_take (i := 5) (v := _) ?hi5 (by kernel_rfl) (by kernel_rfl) (by kernel_rfl) (Or.inl ⟨?hw5, ?hy5⟩) ?rest5
            case hi5 => (simp only [List.getElem?_toArray, List.getElem?_cons_succ, List.getElem?_cons_zero]; rfl)
            case hw5 => rfl
            case hy5 => (intro w' hw'; have hc := (HQx0.out.below hw').c1; go_simp; try with_reducible rfl)
            try simp only [Act.put, List.setIfInBounds_toArray, List.set_cons_zero, List.set_cons_succ]
            refine wpAnyH_ready (rs := [1]) (by kernel_rfl) (by simp) ?_
            refine' AllReadyH.cons (o := _) ?ho1 (fun K hK => ?step1) ?more1
            case ho1 => (simp only [List.getElem?_toArray, List.getElem?_cons_succ, List.getElem?_cons_zero]; rfl)
            case more1 => exact AllReadyH.nil
            go_simp
            refine (Calls.mono (ones_v _ HFx0.out) ?_); rintro e u1 ⟨rfl, gg1⟩
            have HBx1 := hide (below_step HBx0.out gg1)
            have HFx1 := hide (HFx0.out.below gg1)
            have HQx1 := hide (HQx0.out.below gg1)
            have HVx1 := hide (HVx0.out.below gg1)
            refine hK.out _ _ gg1 (fun _ => bel_switch gg1 ?_)
            clear hK K gg1 HBx0 HFx0 HQx0 HVx0
            try simp only [Act.put, List.setIfInBounds_toArray, List.set_cons_zero, List.set_cons_succ]
            refine wpAnyH_ready (rs := [6]) (by kernel_rfl) (by simp) ?_
            refine' AllReadyH.cons (o := _) ?ho6 (fun K hK => ?step6) ?more6
            case ho6 => (simp only [List.getElem?_toArray, List.getElem?_cons_succ, List.getElem?_cons_zero]; rfl)
            case more6 => exact AllReadyH.nil
            go_simp
            refine (Calls.mono (onesl_any (some ⟨gq, 0, none⟩) cq R _ HRL.out HQx1.out.row HQx1.out.byt) ?_); rintro e u2 ⟨rfl, gg2⟩
            have HBx2 := hide (below_step HBx1.out gg2)
            have HFx2 := hide (HFx1.out.below gg2)
            have HQx2 := hide (HQx1.out.below gg2)
            have HVx2 := hide (HVx1.out.below gg2)
            refine hK.out _ _ gg2 (fun _ => bel_switch gg2 ?_)
            clear hK K gg2 HBx1 HFx1 HQx1 HVx1
            try simp only [Act.put, List.setIfInBounds_toArray, List.set_cons_zero, List.set_cons_succ]
            refine' bel_take (i := 7) (v := _) ?hi7 (by kernel_rfl) (by kernel_rfl) (by kernel_rfl) (Or.inl ⟨?hw7, ?hy7⟩) ?rest7
            case hi7 => (simp only [List.getElem?_toArray, List.getElem?_cons_succ, List.getElem?_cons_zero]; rfl)
            case hw7 => rfl
            case hy7 => (intro w' hw'; go_simp; try with_reducible rfl)
            try simp only [Act.put, List.setIfInBounds_toArray, List.set_cons_zero, List.set_cons_succ]
            refine' bel_take (i := 8) (v := _) ?hi8 (by kernel_rfl) (by kernel_rfl) (by kernel_rfl) (Or.inl ⟨?hw8, ?hy8⟩) ?rest8
            case hi8 => (simp only [List.getElem?_toArray, List.getElem?_cons_succ, List.getElem?_cons_zero]; rfl)
            case hw8 => rfl
            case hy8 => (intro w' hw'; go_simp; try with_reducible rfl)
            try simp only [Act.put, List.setIfInBounds_toArray, List.set_cons_zero, List.set_cons_succ]
            refine' bel_take (i := 9) (v := _) ?hi9 (by kernel_rfl) (by kernel_rfl) (by kernel_rfl) (Or.inl ⟨?hw9, ?hy9⟩) ?rest9
            case hi9 => (simp only [List.getElem?_toArray, List.getElem?_cons_succ, List.getElem?_cons_zero]; rfl)
            case hw9 => rfl
            case hy9 => (intro w' hw'; go_simp; try with_reducible rfl)
            try simp only [Act.put, List.setIfInBounds_toArray, List.set_cons_zero, List.set_cons_succ]
            refine' bel_take (i := 13) (v := _) ?hi13 (by kernel_rfl) (by kernel_rfl) (by kernel_rfl) (Or.inl ⟨?hw13, ?hy13⟩) ?rest13
            case hi13 => (simp only [List.getElem?_toArray, List.getElem?_cons_succ, List.getElem?_cons_zero]; rfl)
            case hw13 => rfl
            case hy13 => (intro w' hw'; go_simp; try with_reducible rfl)
            try simp only [Act.put, List.setIfInBounds_toArray, List.set_cons_zero, List.set_cons_succ]
            refine wpAnyH_ready (rs := [10]) (by kernel_rfl) (by simp) ?_
            refine' AllReadyH.cons (o := _) ?ho10 (fun K hK => ?step10) ?more10
            case ho10 => (simp only [List.getElem?_toArray, List.getElem?_cons_succ, List.getElem?_cons_zero]; rfl)
            case more10 => exact AllReadyH.nil
            go_simp
            have hS10 : Below u2.heap.size u2 (u2.alloc (.cells #[.int .u8 107] 5)) := below_alloc (Below.refl _ _) _
            refine hK.out _ _ hS10 (fun _ => ?_)
            clear hK K hS10
            try simp only [Act.put, List.setIfInBounds_toArray, List.set_cons_zero, List.set_cons_succ]
            refine wpAnyH_ready (rs := [11]) (by kernel_rfl) (by simp) ?_
            refine' AllReadyH.cons (o := _) ?ho11 (fun K hK => ?step11) ?more11
            case ho11 => (simp only [List.getElem?_toArray, List.getElem?_cons_succ, List.getElem?_cons_zero]; rfl)
            case more11 => exact AllReadyH.nil
            have hcv := Go.Joins.run_convert_bytes_const_at (P := Try.prog) u2 27 5 #[.int .u8 107] 1 1 u2.heap.size rfl Try.underlying27 Try.underlying5
            go_simp
            have gg2b : Below u2.heap.size u2 (u2.alloc (.cells #[.int .u8 107] 5 (1, 2))) := below_alloc (Below.refl _ _) _
            have HK : Hid (ValsAt u8v (u2.alloc (.cells #[.int .u8 107] 5 (1, 2))) (some ⟨u2.heap.size, 0, none⟩) [107]) := hide (vals_of_block (t := 5) (fr := (1, 2)) (heap_alloc_new u2 _))
            have HBx2b := hide (below_step HBx2.out gg2b)
            have HFx2b := hide (HFx2.out.below gg2b)
            have HQx2b := hide (HQx2.out.below gg2b)
            have HVx2b := hide (HVx2.out.below gg2b)
            refine hK.out _ _ gg2b (fun _ => bel_switch gg2b ?_)
            clear hK K hcv gg2b HBx2 HFx2 HQx2 HVx2
            try simp only [Act.put, List.setIfInBounds_toArray, List.set_cons_zero, List.set_cons_succ]
            refine wpAnyH_ready (rs := [12]) (by kernel_rfl) (by simp) ?_
            refine' AllReadyH.cons (o := _) ?ho12 (fun K hK => ?step12) ?more12
            case ho12 => (simp only [List.getElem?_toArray, List.getElem?_cons_succ, List.getElem?_cons_zero]; rfl)
            case more12 => exact AllReadyH.nil
            go_simp
            refine (Calls.mono (has_v (some ⟨u2.heap.size, 0, none⟩) 1 [107] _ HFx2b.out (by simp) HK.out HKB.out) ?_); rintro e u3 ⟨rfl, gg3⟩
            have HBx3 := hide (below_step HBx2b.out gg3)
            have HFx3 := hide (HFx2b.out.below gg3)
            have HQx3 := hide (HQx2b.out.below gg3)
            have HVx3 := hide (HVx2b.out.below gg3)
            rw [HZ.out]
            refine hK.out _ _ gg3 (fun _ => bel_switch gg3 ?_)
            clear hK K gg3 HBx2b HFx2b HQx2b HVx2b
            try simp only [Act.put, List.setIfInBounds_toArray, List.set_cons_zero, List.set_cons_succ]
            refine wpAnyH_ready (rs := [14]) (by kernel_rfl) (by simp) ?_
            refine' AllReadyH.cons (o := _) ?ho14 (fun K hK => ?step14) ?more14
            case ho14 => (simp only [List.getElem?_toArray, List.getElem?_cons_succ, List.getElem?_cons_zero]; rfl)
            case more14 => exact AllReadyH.nil
            go_simp
            have hrh := hide (rhas_v [107] _ HQx3.out (by simp) HKB.out)
            rw [HK7.out] at hrh
            refine (Calls.mono (hrh.out) ?_); rintro e u4 ⟨rfl, gg4⟩
            have HBx4 := hide (below_step HBx3.out gg4)
            have HFx4 := hide (HFx3.out.below gg4)
            have HQx4 := hide (HQx3.out.below gg4)
            have HVx4 := hide (HVx3.out.below gg4)
            rw [HZ.out]
            clear hrh
            refine hK.out _ _ gg4 (fun _ => bel_switch gg4 ?_)
            clear hK K gg4 HBx3 HFx3 HQx3 HVx3
            try simp only [Act.put, List.setIfInBounds_toArray, List.set_cons_zero, List.set_cons_succ]
            refine' bel_take (i := 15) (v := _) ?hi15 (by kernel_rfl) (by kernel_rfl) (by kernel_rfl) (Or.inl ⟨?hw15, ?hy15⟩) ?rest15
            case hi15 => (simp only [List.getElem?_toArray, List.getElem?_cons_succ, List.getElem?_cons_zero]; rfl)
            case hw15 => rfl
            case hy15 => (intro w' hw'; go_simp; try with_reducible rfl)
            try simp only [Act.put, List.setIfInBounds_toArray, List.set_cons_zero, List.set_cons_succ]
            refine' bel_take (i := 16) (v := _) ?hi16 (by kernel_rfl) (by kernel_rfl) (by kernel_rfl) (Or.inl ⟨?hw16, ?hy16⟩) ?rest16
            case hi16 => (simp only [List.getElem?_toArray, List.getElem?_cons_succ, List.getElem?_cons_zero]; rfl)
            case hw16 => rfl
            case hy16 => (intro w' hw'; go_simp; try with_reducible rfl)
            try simp only [Act.put, List.setIfInBounds_toArray, List.set_cons_zero, List.set_cons_succ]
            refine' bel_take (i := 17) (v := _) ?hi17 (by kernel_rfl) (by kernel_rfl) (by kernel_rfl) (Or.inl ⟨?hw17, ?hy17⟩) ?rest17
            case hi17 => (simp only [List.getElem?_toArray, List.getElem?_cons_succ, List.getElem?_cons_zero]; rfl)
            case hw17 => rfl
            case hy17 => (intro w' hw'; go_simp; try with_reducible rfl)
            try simp only [Act.put, List.setIfInBounds_toArray, List.set_cons_zero, List.set_cons_succ]
            refine' bel_take (i := 18) (v := _) ?hi18 (by kernel_rfl) (by kernel_rfl) (by kernel_rfl) (Or.inl ⟨?hw18, ?hy18⟩) ?rest18
            case hi18 => (simp only [List.getElem?_toArray, List.getElem?_cons_succ, List.getElem?_cons_zero]; rfl)
            case hw18 => rfl
            case hy18 => (intro w' hw'; go_simp; try with_reducible rfl)
            try simp only [Act.put, List.setIfInBounds_toArray, List.set_cons_zero, List.set_cons_succ]
            refine' bel_take (i := 21) (v := _) ?hi21 (by kernel_rfl) (by kernel_rfl) (by kernel_rfl) (Or.inl ⟨?hw21, ?hy21⟩) ?rest21
            case hi21 => (simp only [List.getElem?_toArray, List.getElem?_cons_succ, List.getElem?_cons_zero]; rfl)
            case hw21 => rfl
            case hy21 => (intro w' hw'; go_simp; try with_reducible rfl)
            try simp only [Act.put, List.setIfInBounds_toArray, List.set_cons_zero, List.set_cons_succ]
            refine wpAnyH_ready (rs := [19]) (by kernel_rfl) (by simp) ?_
            refine' AllReadyH.cons (o := _) ?ho19 (fun K hK => ?step19) ?more19
            case ho19 => (simp only [List.getElem?_toArray, List.getElem?_cons_succ, List.getElem?_cons_zero]; rfl)
            case more19 => exact AllReadyH.nil
            go_simp
            refine (Calls.mono (bytes_v _ HFx4.out) ?_); rintro e u5 ⟨x5, rfl, o5, gg5⟩
            have HBx5 := hide (below_step HBx4.out gg5)
            have HFx5 := hide (HFx4.out.below gg5)
            have HQx5 := hide (HQx4.out.below gg5)
            have HVx5 := hide (HVx4.out.below gg5)
            obtain ⟨B5, k5, e5, r5, _, _⟩ := o5.vals
            subst e5
            have HV5 := hide r5
            clear o5 r5
            refine hK.out _ _ gg5 (fun _ => bel_switch gg5 ?_)
            clear hK K gg5 HBx4 HFx4 HQx4 HVx4
            try simp only [Act.put, List.setIfInBounds_toArray, List.set_cons_zero, List.set_cons_succ]
            refine' bel_take (i := 20) (v := _) ?hi20 (by kernel_rfl) (by kernel_rfl) (by kernel_rfl) (Or.inl ⟨?hw20, ?hy20⟩) ?rest20
            case hi20 => (simp only [List.getElem?_toArray, List.getElem?_cons_succ, List.getElem?_cons_zero]; rfl)
            case hw20 => rfl
            case hy20 => (intro w' hw'; have hc := conv_bytes (c := k5) (HV5.out.below hw'); go_simp; try with_reducible rfl)
            try simp only [Act.put, List.setIfInBounds_toArray, List.set_cons_zero, List.set_cons_succ]
            refine wpAnyH_ready (rs := [22]) (by kernel_rfl) (by simp) ?_
            refine' AllReadyH.cons (o := _) ?ho22 (fun K hK => ?step22) ?more22
            case ho22 => (simp only [List.getElem?_toArray, List.getElem?_cons_succ, List.getElem?_cons_zero]; rfl)
            case more22 => exact AllReadyH.nil
            go_simp
            refine (Calls.mono (rbytes_v _ HQx5.out) ?_); rintro e u6 ⟨rfl, gg6⟩
            have HBx6 := hide (below_step HBx5.out gg6)
            have HFx6 := hide (HFx5.out.below gg6)
            have HQx6 := hide (HQx5.out.below gg6)
            have HVx6 := hide (HVx5.out.below gg6)
            have HV5 := hide (HV5.out.below gg6)
            refine hK.out _ _ gg6 (fun _ => bel_switch gg6 ?_)
            clear hK K gg6 HBx5 HFx5 HQx5 HVx5
            try simp only [Act.put, List.setIfInBounds_toArray, List.set_cons_zero, List.set_cons_succ]
            refine' bel_take (i := 23) (v := _) ?hi23 (by kernel_rfl) (by kernel_rfl) (by kernel_rfl) (Or.inl ⟨?hw23, ?hy23⟩) ?rest23
            case hi23 => (simp only [List.getElem?_toArray, List.getElem?_cons_succ, List.getElem?_cons_zero]; rfl)
            case hw23 => rfl
            case hy23 => (intro w' hw'; go_simp; try with_reducible rfl)
            try simp only [Act.put, List.setIfInBounds_toArray, List.set_cons_zero, List.set_cons_succ]
            refine' bel_take (i := 24) (v := _) ?hi24 (by kernel_rfl) (by kernel_rfl) (by kernel_rfl) (Or.inl ⟨?hw24, ?hy24⟩) ?rest24
            case hi24 => (simp only [List.getElem?_toArray, List.getElem?_cons_succ, List.getElem?_cons_zero]; rfl)
            case hw24 => rfl
            case hy24 => (intro w' hw'; go_simp; try with_reducible rfl)
            try simp only [Act.put, List.setIfInBounds_toArray, List.set_cons_zero, List.set_cons_succ]
            refine wpAnyH_done (by kernel_rfl) ?_ _
            refine NoPanic.normal ?_
            go_wp2_with fail
            go_roundw
            case rel => exact ⟨j + 1, A, c, L, by omega, by go_num, rfl, hlc, hcm, hll, HVx6.out, HBB2.out, HBx6.out⟩
            case measure => simp [intOf]; omega
      · have hjd : ¬ (j : Int) < 2 := by omega
        go_wp2_with fail
        refine (Calls.mono (awake_any _) ?_); rintro e w9 ⟨rfl, hg9⟩
        go_wp2_with fail
        go_ret
        exact ⟨rfl, below_step (below_step HBW.out HBB.out) hg9⟩
end Go.Proofs.Ytdhpjeenbejajaa.bloomReads
