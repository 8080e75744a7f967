/- The walk of clepsydralaw10.BloomTells: it returns true. No condition. -/
import Derived.Test.YtdhpjeenbejajaaTakePut
import Derived.Test.YtdhpjeenbejajaaOnesL
import Derived.Test.YtdhpjeenbejajaaHeld
namespace Go.Proofs.Ytdhpjeenbejajaa.bloomTells
set_option linter.unusedVariables false
set_option linter.unusedSimpArgs false
open Go.ChangeShapes Go.WideShapes Go.ChangeAt Go.RowKit

theorem conv_any {w : World} {A : Option Addr} {c : Nat} {L : List Int} (hL : ValsAt u8v w A L) : (convert 27 9 (.slice A L.length c)).run Try.prog w = .ok (.string (strOfNums L)) w := by
  rcases L with _ | ⟨x, L⟩
  · cases A with
    | none => exact run_convert_bytes_nil w 27 5 Try.underlying27 Try.underlying5 0 c 9 Try.underlying9
    | some ad =>
      have hl := run_loadCells_list (P := Try.prog) w ad [] (fun j v hj => by simp at hj)
      rw [List.length_nil, run_convert_bytes_string w 27 9 5 (some ad) 0 c Try.underlying27 Try.underlying5 Try.underlying9, run_bytesToString w ad 0 c [] hl]
      rfl
  · exact conv_vals hL (by simp)
theorem addsG_has {S : Nat} (hS : 0 < S) (k : Nat) {Ks : List (Sv Int)} {s : Sv Int} (hs : s ∈ Ks) : hasL (addsG S k Ks) (plG S k s.L) = true := by
  rw [hasL_iff]
  intro q hq
  have h := (addsG_inv hS k Ks).2.2 q (okQ_plG hS _ q hq)
  cases hc : clrP (addsG S k Ks) q
  · rfl
  · exact absurd hq (h.1 hc s hs)

theorem putAux_isB (f : Nat) {x : Int} (h0 : 0 ≤ x) : ∀ b ∈ putAux f x, isB b := by
  induction f generalizing x with
  | zero => simp [putAux]
  | succ f ih =>
    rw [putAux]
    split
    · intro b hb; simp at hb; subst hb; unfold isB; omega
    · intro b hb
      rcases List.mem_cons.1 hb with rfl | hb
      · rw [or128]; unfold isB; omega
      · exact ih (by omega) b hb
theorem bytesL_isB {k : Nat} {B : List Int} (hB : ∀ b ∈ B, isB b) : ∀ b ∈ bytesL k B, isB b := by
  intro b hb
  unfold bytesL at hb
  rcases List.mem_append.1 hb with hb | hb
  · rcases List.mem_append.1 hb with hb | hb
    · exact putAux_isB 11 (by omega) b hb
    · exact putAux_isB 11 (by omega) b hb
  · exact hB b hb
set_option maxHeartbeats 8000000 in
set_option maxRecDepth 100000 in
theorem walk {w : World} (a0 : Int) (w0 : (Lit.int .i64 a0).wf = true) (a1 : Int) (w1 : (Lit.int .i64 a1).wf = true)
    (A2 : Option Addr) (c2 : Nat) (L2 : List (Sv Int)) (lc2 : L2.length ≤ c2) (cm2 : c2 ≤ maxLen) (r2 : RowAt (fun s => [s.val]) 1 w A2 L2)
    (w2 : ∀ s ∈ L2, Sv.good (fun a => [.int .u8 a]) 1 (fun a => (Lit.int .u8 a).wf = true) w s)
    (A3 : Option Addr) (c3 : Nat) (L3 : List Int) (lc3 : L3.length ≤ c3) (cm3 : c3 ≤ maxLen) (r3 : RowAt (fun a => [.int .u8 a]) 1 w A3 L3) (w3 : ∀ a ∈ L3, (Lit.int .u8 a).wf = true) :
    Calls Try.prog 6 #[.int .i64 a0, .int .i64 a1, .slice A2 L2.length c2, .slice A3 L3.length c3] w fun e w' => e = .returned (.bool true) ∧ Below w.heap.size w w' := by
  have HR2 := hide r2
  have HW2 := hide w2
  have HR3 := hide r3
  have HB3 : Hid (∀ b ∈ L3, isB b) := hide (fun b hb => bounds_u8 (w3 b hb))
  have hb0 := bounds_i64 w0
  have hb1 := bounds_i64 w1
  clear r2 w2 r3 w3 w0 w1
  by_cases hgood : (0 ≤ a0 ∧ a0 ≤ 10000) ∧ 1 ≤ a1 ∧ a1 ≤ 20
  case neg =>
    have hbad : a0 < 0 ∨ 10000 < a0 ∨ a1 < 1 ∨ 20 < a1 := by omega
    clear hgood hb0 hb1
    have HN1 := hide (fun W => new_no a0 a1 W hbad)
    have HN2 := hide (fun W => newf_no a0 a1 W hbad)
    clear hbad
    go_enter Try.func6, Try.ntmps6
    go_wp2_with fail
    refine (Calls.mono (HN1.out w) ?_); rintro e w1 ⟨rfl, hg1⟩
    go_wp2_with fail
    refine (Calls.mono (HN2.out w1) ?_); rintro e w2 ⟨rfl, hg2⟩
    go_wp2_with fail
    refine (Calls.mono (awake_any _) ?_); rintro e w9 ⟨rfl, hg9⟩
    go_wp2_with fail
    go_ret
    exact ⟨rfl, below_step (below_step hg1 hg2) hg9⟩
  have HN1 := hide (fun W => new_yes a0 a1 W hgood.1 hgood.2)
  have HN2 := hide (fun W => newf_yes a0 a1 W hgood.1 hgood.2)
  have hS8 : 8 ≤ newS a0 a1 := by unfold newS; omega
  clear hgood hb0 hb1
  generalize newS a0 a1 = S at *
  generalize newK a1 = K at *
  by_cases h500 : 500 < L3.length
  case pos =>
    have hkn : (500 : Int) < (L3.length : Int) := by omega
    go_enter Try.func6, Try.ntmps6
    go_wp2_with fail
    refine (Calls.mono (HN1.out w) ?_); rintro e w1 ⟨p, g, rfl, hp, hg, hF, hg1⟩
    go_wp2_with fail
    refine (Calls.mono (HN2.out w1) ?_); rintro e w2 ⟨p2, g2, rfl, hp2, hg2x, hR, hg2⟩
    go_wp2_with fail
    refine (Calls.mono (awake_any _) ?_); rintro e w9 ⟨rfl, hg9⟩
    go_wp2_with fail
    go_ret
    exact ⟨rfl, below_step (below_step hg1 hg2) hg9⟩
  have hkn : ¬ (500 : Int) < (L3.length : Int) := by omega
  go_enter Try.func6, Try.ntmps6
  go_wp2_with fail
  refine (Calls.mono (HN1.out w) ?_); rintro e w1 ⟨p, g, rfl, hp, hg, hF, hg1⟩
  have HF := hide hF
  have HB1 := hide hg1
  clear hF hg1
  go_wp2_with fail
  refine (Calls.mono (HN2.out w1) ?_); rintro e w2 ⟨p2, g2, rfl, hp2, hg2x, hR, hg2⟩
  have HR := hide hR
  have HF2 := hide (HF.out.below hg2)
  have HB2 := hide (below_step HB1.out hg2)
  have hlt1 := HF.out.lt
  have hz1 := HB1.out.size
  have HSEP : Hid ((p2 ≠ g ∧ g2 ≠ g) ∧ (p ≠ g2 ∧ g ≠ g2) ∧ w.heap.size ≤ g2) := hide (by omega)
  have hkk := HF.out.k1
  have hll := HF.out.len
  have hzl : (zeros S).length = S := by simp [zeros]
  rw [hzl] at hll
  clear hlt1 hz1 hzl hR hg2 HF HB1 HN1 HN2 hp2 hg2x
  obtain ⟨N, hN⟩ : ∃ N, N = min L2.length 40 := ⟨_, rfl⟩
  have hNL : N ≤ L2.length := by omega
  have HNN := hide hN
  clear hN
  go_wp2_with fail
  go_loopw [12] (fun i wr => ∃ j : Nat, j ≤ N ∧ i = .int .i64 j ∧ Flt wr p g K (addsG S K (L2.take j)) ∧ RFlt wr p2 g2 K (addsG S K (L2.take j)) ∧ Below w.heap.size w wr) (fun i _ => N - (intOf i).toNat)
  case atStart => exact ⟨0, by omega, rfl, HF2.out, HR.out, HB2.out⟩
  case round =>
    clear HF2 HR HB2
    obtain ⟨j, hj, rfl, hf, hr, hb⟩ := hrel
    have HF := hide hf
    have HR := hide hr
    have HB := hide hb
    clear hf hr
    by_cases hlt : j < N
    · have hjL : j < L2.length := by omega
      have hkc : (j : Int) < (L2.length : Int) := by omega
      have hkd : (j : Int) < 40 := by have := HNN.out; omega
      obtain ⟨b, off, hA, hbw, y0⟩ := RowAt.one (val := fun s : Sv Int => s.val) HR2.out hb hjL
      have hgood := HW2.out (L2[j]'hjL) (List.getElem_mem hjL)
      have htk : L2.take (j + 1) = L2.take j ++ [L2[j]'hjL] := take_snoc hjL
      have HTK := hide htk
      clear htk
      generalize (L2[j]'hjL) = s at *
      obtain ⟨As, cs, Ls⟩ := s
      subst hA
      have HYS : Hid (∀ W : World, Below w.heap.size w W → W.cell? ⟨b, off + j, none⟩ = some (.slice As Ls.length cs)) := hide (fun W hW => (hW.cell (p := ⟨b, _, none⟩) hbw).trans ((hb.cell (p := ⟨b, _, none⟩) hbw).symm.trans y0))
      replace y0 : wr.cell? ⟨b, off + j, none⟩ = some (.slice As Ls.length cs) := y0
      clear hb
      have HGD := hide hgood
      by_cases h200 : 200 < Ls.length
      case pos =>
        have hkx : (200 : Int) < (Ls.length : Int) := by omega
        clear hgood
        go_wp2_with fail
        refine (Calls.mono (awake_any _) ?_); rintro e w9 ⟨rfl, hg9⟩
        go_wp2_with fail
        go_ret
        exact ⟨rfl, below_step HB.out hg9⟩
      have hkx : ¬ (200 : Int) < (Ls.length : Int) := by omega
      have HBS : Hid (∀ b ∈ Ls, isB b) := hide (fun b hb => bounds_u8 (HGD.out.ok b hb))
      have HLS : Hid (Ls.length ≤ 9223372036854775807) := hide (by omega)
      have HLA : Hid (∀ Ms, (addsG S K Ms).length = S) := hide (fun Ms => (addsG_inv (by omega) K Ms).2.1)
      clear hgood
      go_wp2_with fail
      refine (Calls.mono (add_any As cs Ls _ HF.out HLS.out ((HGD.out.below HB.out).row) HBS.out) ?_); rintro e w3 ⟨rfl, hf3, hg3⟩
      rw [HLA.out, show placesL (hashL Ls) S K = plG S K Ls from rfl, ← addsG_snoc S K (L2.take j) ⟨As, cs, Ls⟩, ← HTK.out] at hf3
      have HF3 := hide hf3
      have HR3 := hide (HR.out.grown hg3 HSEP.out.1.1 HSEP.out.1.2)
      have HB3 : Hid (Below w.heap.size w w3) := hide (HB.out.grown hg3 HB.out.size (fun k hk => by injection hk with hk; omega))
      have y0 := HYS.out w3 HB3.out
      have hcv := conv_any (c := cs) ((HGD.out.below HB3.out).row)
      clear hf3 hg3 HF HR HB
      go_wp2_with fail
      refine (Calls.mono (radd_any Ls _ HR3.out HLS.out HBS.out) ?_); rintro e w4 ⟨rfl, hf4, hg4⟩
      rw [HLA.out, show placesL (hashL Ls) S K = plG S K Ls from rfl, ← addsG_snoc S K (L2.take j) ⟨As, cs, Ls⟩, ← HTK.out] at hf4
      have HR4 := hide hf4
      have HF4 := hide (HF3.out.grown hg4 HSEP.out.2.1.1 HSEP.out.2.1.2)
      have HB4 : Hid (Below w.heap.size w w4) := hide (HB3.out.grown hg4 HB3.out.size (fun k hk => by injection hk with hk; have := HSEP.out.2.2; omega))
      clear hf4 hg4 HF3 HR3 HB3
      go_wp2_with fail
      go_roundw
      case rel => exact ⟨j + 1, by omega, by go_num, HF4.out, HR4.out, HB4.out⟩
      case measure => simp [intOf]; omega
    · obtain rfl : j = N := by omega
      have HIN : Hid (∀ m (hm : m < L2.length), m < j → hasL (addsG S K (L2.take j)) (plG S K (L2[m]'hm).L) = true) := hide (fun m hm hmj => addsG_has (by omega) K (List.mem_take_iff_getElem.2 ⟨m, by omega, rfl⟩))
      have HCL : Hid ((addsG S K (L2.take j)).length = S) := hide (addsG_inv (by omega) K _).2.1
      generalize addsG S K (L2.take j) = C at *
      clear hb
      by_cases hJL : j < L2.length
      · have hkc : (j : Int) < (L2.length : Int) := by omega
        have hkd : ¬ (j : Int) < 40 := by have := HNN.out; omega
        go_wp2_with fail
        go_loopw [13] (fun i wr => ∃ m : Nat, m ≤ j ∧ i = .int .i64 m ∧ Flt wr p g K C ∧ RFlt wr p2 g2 K C ∧ Below w.heap.size w wr) (fun i _ => j - (intOf i).toNat)
        case atStart => exact ⟨0, by omega, rfl, HF.out, HR.out, HB.out⟩
        case round =>
          clear HF HR HB
          obtain ⟨m, hm, rfl, hf, hr, hb⟩ := hrel
          have HF := hide hf
          have HR := hide hr
          have HB := hide hb
          clear hf hr
          by_cases hmlt : m < j
          · have hmL : m < L2.length := by omega
            have hmc : (m : Int) < (L2.length : Int) := by omega
            have hmd : (m : Int) < 40 := by have := HNN.out; omega
            obtain ⟨b, off, hA, hbw, y0⟩ := RowAt.one (val := fun s : Sv Int => s.val) HR2.out hb hmL
            have hgood := HW2.out (L2[m]'hmL) (List.getElem_mem hmL)
            have hh := HIN.out m hmL hmlt
            generalize (L2[m]'hmL) = s at *
            obtain ⟨As, cs, Ls⟩ := s
            subst hA
            replace y0 : wr.cell? ⟨b, off + m, none⟩ = some (.slice As Ls.length cs) := y0
            have HGD := hide hgood
            have HHH := hide hh
            have HBS : Hid (∀ b ∈ Ls, isB b) := hide (fun b hb => bounds_u8 (HGD.out.ok b hb))
            have HLS : Hid (Ls.length ≤ 9223372036854775807) := hide (Nat.le_trans hgood.lc hgood.cm)
            clear hgood hh hb
            go_wp2_with fail
            refine (Calls.mono (has_any As cs Ls _ HF.out HLS.out ((HGD.out.below HB.out).row) HBS.out) ?_); rintro e w6 ⟨rfl, hg6⟩
            rw [HCL.out, show placesL (hashL Ls) S K = plG S K Ls from rfl, HHH.out]
            have HF6 := hide (HF.out.below hg6)
            have HR6 := hide (HR.out.below hg6)
            have HB6 := hide (below_step HB.out hg6)
            clear hg6 HF HR HB
            go_wp2_with fail
            go_roundw
            case rel => exact ⟨m + 1, by omega, by go_num, HF6.out, HR6.out, HB6.out⟩
            case measure => simp [intOf]; omega
          · obtain rfl : m = j := by omega
            have hcl := HCL.out
            have HC8 : Hid (8 ≤ C.length ∧ C.length ≤ 25000) := hide (by omega)
            obtain ⟨re, rr, rk⟩ := read_bytes (B := C) HF.out.k1 HC8.out
            have hbl : (bytesL K C).length ≤ 26000 := by
              have h1 := putL_len K; have h2 := putL_len C.length
              unfold bytesL
              rw [List.length_append, List.length_append]
              omega
            have hbn : bytesL K C ≠ [] := fun e => by have := HC8.out; unfold bytesL at e; rw [(List.append_eq_nil_iff.1 e).2] at this; simp at this
            have hbb : ∀ b ∈ bytesL K C, isB b := bytesL_isB HF.out.byt
            have HRE := hide re
            have HRR := hide rr
            have HRK := hide rk
            have HBL := hide hbl
            have HBN := hide hbn
            have HBBB := hide hbb
            clear hb re rr rk hbl hbn hbb hcl
            go_wp2_with fail
            refine (Calls.mono (bytes_any _ HF.out) ?_); rintro e w7 ⟨v7, rfl, ho7, hg7⟩
            obtain ⟨g7, c7, rfl, _, _, hr7, hl7, hm7⟩ := own_form ho7 HBN.out
            have HR7 := hide hr7
            have HF7 := hide (HF.out.below hg7)
            have HQ7 := hide (HR.out.below hg7)
            have HB7 := hide (below_step HB.out hg7)
            clear hg7 HF HR HB ho7 hr7
            have HRD := hide (read_any (some ⟨g7, 0, none⟩) c7 (bytesL K C) w7 (by have := HBL.out; omega) hl7 hm7 HR7.out HBBB.out)
            rw [HRE.out, HRR.out, HRK.out] at HRD
            obtain ⟨X, hX⟩ : ∃ X, bytesL K C = X := ⟨_, rfl⟩
            rw [hX] at HRD
            have HX := hide hX
            have hlX : (bytesL K C).length = X.length := by rw [hX]
            rw [hX] at hl7
            clear hX
            simp only [hlX]
            clear hlX
            go_wp2_with fail
            refine (Calls.mono HRD.out ?_); rintro e w8 ⟨hg8, ⟨hx, _⟩ | ⟨_, p3, g3, gc3, k3, rfl, _, hk3, hG⟩⟩
            · exact absurd rfl hx
            obtain rfl : k3 = K := by omega
            have HG8 := hide hG
            have HF8 := hide (HF7.out.below hg8)
            have HQ8 := hide (HQ7.out.below hg8)
            have HB8 := hide (below_step HB7.out hg8)
            clear hg8 HF7 HQ7 HB7 hG HRD
            go_wp2_with fail
            obtain ⟨z, hz⟩ : ∃ z, hasL C (placesL (hashL L3) C.length k3) = z := ⟨_, rfl⟩
            have HZ := hide hz
            have HL3 : Hid (L3.length ≤ 9223372036854775807) := hide (by omega)
            have HC100 : Hid (C.length ≤ 100000) := hide (Nat.le_trans HC8.out.2 (by decide))
            clear hz
            have hdr : Below w8.heap.size w8 w8.drew := (Below.refl _ _).drew
            have HBx0 := hide (below_step HB8.out hdr)
            have HFx0 := hide (HF8.out.below hdr)
            have HQx0 := hide (HQ8.out.below hdr)
            have HGx0 := hide (HG8.out.below hdr)
            clear hdr HB8 HF8 HQ8 HG8
            refine bel_start (by kernel_rfl) ?_
            refine' bel_take (i := 0) (v := _) ?hi0 (by kernel_rfl) (by kernel_rfl) (by kernel_rfl) (Or.inl ⟨?hw0, ?hy0⟩) ?rest0
            case hi0 => (simp only [List.getElem?_toArray, List.getElem?_cons_succ, List.getElem?_cons_zero]; rfl)
            case hw0 => rfl
            case hy0 => (intro w' hw'; go_simp; try with_reducible rfl)
            try simp only [Act.put, List.setIfInBounds_toArray, List.set_cons_zero, List.set_cons_succ]
            refine' bel_take (i := 3) (v := _) ?hi3 (by kernel_rfl) (by kernel_rfl) (by kernel_rfl) (Or.inl ⟨?hw3, ?hy3⟩) ?rest3
            case hi3 => (simp only [List.getElem?_toArray, List.getElem?_cons_succ, List.getElem?_cons_zero]; rfl)
            case hw3 => rfl
            case hy3 => (intro w' hw'; go_simp; try with_reducible rfl)
            try simp only [Act.put, List.setIfInBounds_toArray, List.set_cons_zero, List.set_cons_succ]
            refine wpAnyH_ready (rs := [1]) (by kernel_rfl) (by simp) ?_
            refine' AllReadyH.cons (o := _) ?ho1 (fun K hK => ?step1) ?more1
            case ho1 => (simp only [List.getElem?_toArray, List.getElem?_cons_succ, List.getElem?_cons_zero]; rfl)
            case more1 => exact AllReadyH.nil
            go_simp
            refine (Calls.mono (bytes_any _ HFx0.out) ?_); rintro e u1 ⟨x1, rfl, o1, gg1⟩
            have HBx1 := hide (below_step HBx0.out gg1)
            have HFx1 := hide (HFx0.out.below gg1)
            have HQx1 := hide (HQx0.out.below gg1)
            have HGx1 := hide (HGx0.out.below gg1)
            obtain ⟨B1, k1, e1, r1, _, _⟩ := o1.vals
            subst e1
            have HV1 := hide r1
            clear o1 r1
            refine hK.out _ _ gg1 (fun _ => bel_switch gg1 ?_)
            clear hK K gg1 HBx0 HFx0 HQx0 HGx0
            try simp only [Act.put, List.setIfInBounds_toArray, List.set_cons_zero, List.set_cons_succ]
            refine' bel_take (i := 2) (v := _) ?hi2 (by kernel_rfl) (by kernel_rfl) (by kernel_rfl) (Or.inl ⟨?hw2, ?hy2⟩) ?rest2
            case hi2 => (simp only [List.getElem?_toArray, List.getElem?_cons_succ, List.getElem?_cons_zero]; rfl)
            case hw2 => rfl
            case hy2 => (intro w' hw'; have hc := conv_vals (c := k1) (HV1.out.below hw') HBN.out; go_simp; try with_reducible rfl)
            try simp only [Act.put, List.setIfInBounds_toArray, List.set_cons_zero, List.set_cons_succ]
            refine wpAnyH_ready (rs := [4]) (by kernel_rfl) (by simp) ?_
            refine' AllReadyH.cons (o := _) ?ho4 (fun K hK => ?step4) ?more4
            case ho4 => (simp only [List.getElem?_toArray, List.getElem?_cons_succ, List.getElem?_cons_zero]; rfl)
            case more4 => exact AllReadyH.nil
            go_simp
            refine (Calls.mono (rbytes_any _ HQx1.out) ?_); rintro e u2 ⟨rfl, gg2⟩
            have HBx2 := hide (below_step HBx1.out gg2)
            have HFx2 := hide (HFx1.out.below gg2)
            have HQx2 := hide (HQx1.out.below gg2)
            have HGx2 := hide (HGx1.out.below gg2)
            have HV1 := hide (HV1.out.below gg2)
            refine hK.out _ _ gg2 (fun _ => bel_switch gg2 ?_)
            clear hK K gg2 HBx1 HFx1 HQx1 HGx1
            try simp only [Act.put, List.setIfInBounds_toArray, List.set_cons_zero, List.set_cons_succ]
            refine' bel_take (i := 5) (v := _) ?hi5 (by kernel_rfl) (by kernel_rfl) (by kernel_rfl) (Or.inl ⟨?hw5, ?hy5⟩) ?rest5
            case hi5 => (simp only [List.getElem?_toArray, List.getElem?_cons_succ, List.getElem?_cons_zero]; rfl)
            case hw5 => rfl
            case hy5 => (intro w' hw'; go_simp; try with_reducible rfl)
            try simp only [Act.put, List.setIfInBounds_toArray, List.set_cons_zero, List.set_cons_succ]
            refine' bel_take (i := 6) (v := _) ?hi6 (by kernel_rfl) (by kernel_rfl) (by kernel_rfl) (Or.inl ⟨?hw6, ?hy6⟩) ?rest6
            case hi6 => (simp only [List.getElem?_toArray, List.getElem?_cons_succ, List.getElem?_cons_zero]; rfl)
            case hw6 => rfl
            case hy6 => (intro w' hw'; go_simp; try with_reducible rfl)
            try simp only [Act.put, List.setIfInBounds_toArray, List.set_cons_zero, List.set_cons_succ]
            refine' bel_take (i := 7) (v := _) ?hi7 (by kernel_rfl) (by kernel_rfl) (by kernel_rfl) (Or.inl ⟨?hw7, ?hy7⟩) ?rest7
            case hi7 => (simp only [List.getElem?_toArray, List.getElem?_cons_succ, List.getElem?_cons_zero]; rfl)
            case hw7 => rfl
            case hy7 => (intro w' hw'; go_simp; try with_reducible rfl)
            try simp only [Act.put, List.setIfInBounds_toArray, List.set_cons_zero, List.set_cons_succ]
            refine' bel_take (i := 8) (v := _) ?hi8 (by kernel_rfl) (by kernel_rfl) (by kernel_rfl) (Or.inl ⟨?hw8, ?hy8⟩) ?rest8
            case hi8 => (simp only [List.getElem?_toArray, List.getElem?_cons_succ, List.getElem?_cons_zero]; rfl)
            case hw8 => rfl
            case hy8 => (intro w' hw'; go_simp; try with_reducible rfl)
            try simp only [Act.put, List.setIfInBounds_toArray, List.set_cons_zero, List.set_cons_succ]
            refine' bel_take (i := 10) (v := _) ?hi10 (by kernel_rfl) (by kernel_rfl) (by kernel_rfl) (Or.inl ⟨?hw10, ?hy10⟩) ?rest10
            case hi10 => (simp only [List.getElem?_toArray, List.getElem?_cons_succ, List.getElem?_cons_zero]; rfl)
            case hw10 => rfl
            case hy10 => (intro w' hw'; go_simp; try with_reducible rfl)
            try simp only [Act.put, List.setIfInBounds_toArray, List.set_cons_zero, List.set_cons_succ]
            refine' bel_take (i := 11) (v := _) ?hi11 (by kernel_rfl) (by kernel_rfl) (by kernel_rfl) (Or.inl ⟨?hw11, ?hy11⟩) ?rest11
            case hi11 => (simp only [List.getElem?_toArray, List.getElem?_cons_succ, List.getElem?_cons_zero]; rfl)
            case hw11 => rfl
            case hy11 => (intro w' hw'; go_simp; try with_reducible rfl)
            try simp only [Act.put, List.setIfInBounds_toArray, List.set_cons_zero, List.set_cons_succ]
            refine' bel_take (i := 12) (v := _) ?hi12 (by kernel_rfl) (by kernel_rfl) (by kernel_rfl) (Or.inl ⟨?hw12, ?hy12⟩) ?rest12
            case hi12 => (simp only [List.getElem?_toArray, List.getElem?_cons_succ, List.getElem?_cons_zero]; rfl)
            case hw12 => rfl
            case hy12 => (intro w' hw'; have hc := conv_any (c := c3) (HR3.out.below (below_step HBx2.out hw')); go_simp; try with_reducible rfl)
            try simp only [Act.put, List.setIfInBounds_toArray, List.set_cons_zero, List.set_cons_succ]
            refine wpAnyH_ready (rs := [9]) (by kernel_rfl) (by simp) ?_
            refine' AllReadyH.cons (o := _) ?ho9 (fun K hK => ?step9) ?more9
            case ho9 => (simp only [List.getElem?_toArray, List.getElem?_cons_succ, List.getElem?_cons_zero]; rfl)
            case more9 => exact AllReadyH.nil
            go_simp
            refine (Calls.mono (has_any A3 c3 L3 _ HFx2.out HL3.out (HR3.out.below HBx2.out) HB3.out) ?_); rintro e u3 ⟨rfl, gg3⟩
            have HBx3 := hide (below_step HBx2.out gg3)
            have HFx3 := hide (HFx2.out.below gg3)
            have HQx3 := hide (HQx2.out.below gg3)
            have HGx3 := hide (HGx2.out.below gg3)
            rw [HZ.out]
            refine hK.out _ _ gg3 (fun _ => bel_switch gg3 ?_)
            clear hK K gg3 HBx2 HFx2 HQx2 HGx2
            try simp only [Act.put, List.setIfInBounds_toArray, List.set_cons_zero, List.set_cons_succ]
            refine wpAnyH_ready (rs := [13]) (by kernel_rfl) (by simp) ?_
            refine' AllReadyH.cons (o := _) ?ho13 (fun K hK => ?step13) ?more13
            case ho13 => (simp only [List.getElem?_toArray, List.getElem?_cons_succ, List.getElem?_cons_zero]; rfl)
            case more13 => exact AllReadyH.nil
            go_simp
            refine (Calls.mono (rhas_any L3 _ HQx3.out HL3.out HB3.out) ?_); rintro e u4 ⟨rfl, gg4⟩
            have HBx4 := hide (below_step HBx3.out gg4)
            have HFx4 := hide (HFx3.out.below gg4)
            have HQx4 := hide (HQx3.out.below gg4)
            have HGx4 := hide (HGx3.out.below gg4)
            rw [HZ.out]
            refine hK.out _ _ gg4 (fun _ => bel_switch gg4 ?_)
            clear hK K gg4 HBx3 HFx3 HQx3 HGx3
            try simp only [Act.put, List.setIfInBounds_toArray, List.set_cons_zero, List.set_cons_succ]
            refine' bel_take (i := 14) (v := _) ?hi14 (by kernel_rfl) (by kernel_rfl) (by kernel_rfl) (Or.inl ⟨?hw14, ?hy14⟩) ?rest14
            case hi14 => (simp only [List.getElem?_toArray, List.getElem?_cons_succ, List.getElem?_cons_zero]; rfl)
            case hw14 => rfl
            case hy14 => (intro w' hw'; go_simp; try with_reducible rfl)
            try simp only [Act.put, List.setIfInBounds_toArray, List.set_cons_zero, List.set_cons_succ]
            refine' bel_take (i := 15) (v := _) ?hi15 (by kernel_rfl) (by kernel_rfl) (by kernel_rfl) (Or.inl ⟨?hw15, ?hy15⟩) ?rest15
            case hi15 => (simp only [List.getElem?_toArray, List.getElem?_cons_succ, List.getElem?_cons_zero]; rfl)
            case hw15 => rfl
            case hy15 => (intro w' hw'; go_simp; try with_reducible rfl)
            try simp only [Act.put, List.setIfInBounds_toArray, List.set_cons_zero, List.set_cons_succ]
            refine' bel_take (i := 16) (v := _) ?hi16 (by kernel_rfl) (by kernel_rfl) (by kernel_rfl) (Or.inl ⟨?hw16, ?hy16⟩) ?rest16
            case hi16 => (simp only [List.getElem?_toArray, List.getElem?_cons_succ, List.getElem?_cons_zero]; rfl)
            case hw16 => rfl
            case hy16 => (intro w' hw'; go_simp; try with_reducible rfl)
            try simp only [Act.put, List.setIfInBounds_toArray, List.set_cons_zero, List.set_cons_succ]
            refine' bel_take (i := 17) (v := _) ?hi17 (by kernel_rfl) (by kernel_rfl) (by kernel_rfl) (Or.inl ⟨?hw17, ?hy17⟩) ?rest17
            case hi17 => (simp only [List.getElem?_toArray, List.getElem?_cons_succ, List.getElem?_cons_zero]; rfl)
            case hw17 => rfl
            case hy17 => (intro w' hw'; go_simp; try with_reducible rfl)
            try simp only [Act.put, List.setIfInBounds_toArray, List.set_cons_zero, List.set_cons_succ]
            refine' bel_take (i := 19) (v := _) ?hi19 (by kernel_rfl) (by kernel_rfl) (by kernel_rfl) (Or.inl ⟨?hw19, ?hy19⟩) ?rest19
            case hi19 => (simp only [List.getElem?_toArray, List.getElem?_cons_succ, List.getElem?_cons_zero]; rfl)
            case hw19 => rfl
            case hy19 => (intro w' hw'; go_simp; try with_reducible rfl)
            try simp only [Act.put, List.setIfInBounds_toArray, List.set_cons_zero, List.set_cons_succ]
            refine' bel_take (i := 20) (v := _) ?hi20 (by kernel_rfl) (by kernel_rfl) (by kernel_rfl) (Or.inl ⟨?hw20, ?hy20⟩) ?rest20
            case hi20 => (simp only [List.getElem?_toArray, List.getElem?_cons_succ, List.getElem?_cons_zero]; rfl)
            case hw20 => rfl
            case hy20 => (intro w' hw'; go_simp; try with_reducible rfl)
            try simp only [Act.put, List.setIfInBounds_toArray, List.set_cons_zero, List.set_cons_succ]
            refine' bel_take (i := 21) (v := _) ?hi21 (by kernel_rfl) (by kernel_rfl) (by kernel_rfl) (Or.inl ⟨?hw21, ?hy21⟩) ?rest21
            case hi21 => (simp only [List.getElem?_toArray, List.getElem?_cons_succ, List.getElem?_cons_zero]; rfl)
            case hw21 => rfl
            case hy21 => (intro w' hw'; go_simp; try with_reducible rfl)
            try simp only [Act.put, List.setIfInBounds_toArray, List.set_cons_zero, List.set_cons_succ]
            refine' bel_take (i := 22) (v := _) ?hi22 (by kernel_rfl) (by kernel_rfl) (by kernel_rfl) (Or.inl ⟨?hw22, ?hy22⟩) ?rest22
            case hi22 => (simp only [List.getElem?_toArray, List.getElem?_cons_succ, List.getElem?_cons_zero]; rfl)
            case hw22 => rfl
            case hy22 => (intro w' hw'; have hc := (HQx4.out.below hw').cells.2; go_simp; try with_reducible rfl)
            try simp only [Act.put, List.setIfInBounds_toArray, List.set_cons_zero, List.set_cons_succ]
            refine wpAnyH_ready (rs := [18]) (by kernel_rfl) (by simp) ?_
            refine' AllReadyH.cons (o := _) ?ho18 (fun K hK => ?step18) ?more18
            case ho18 => (simp only [List.getElem?_toArray, List.getElem?_cons_succ, List.getElem?_cons_zero]; rfl)
            case more18 => exact AllReadyH.nil
            go_simp
            refine (Calls.mono (ones_any _ HFx4.out) ?_); rintro e u5 ⟨rfl, gg5⟩
            have HBx5 := hide (below_step HBx4.out gg5)
            have HFx5 := hide (HFx4.out.below gg5)
            have HQx5 := hide (HQx4.out.below gg5)
            have HGx5 := hide (HGx4.out.below gg5)
            refine hK.out _ _ gg5 (fun _ => bel_switch gg5 ?_)
            clear hK K gg5 HBx4 HFx4 HQx4 HGx4
            try simp only [Act.put, List.setIfInBounds_toArray, List.set_cons_zero, List.set_cons_succ]
            refine wpAnyH_ready (rs := [23]) (by kernel_rfl) (by simp) ?_
            refine' AllReadyH.cons (o := _) ?ho23 (fun K hK => ?step23) ?more23
            case ho23 => (simp only [List.getElem?_toArray, List.getElem?_cons_succ, List.getElem?_cons_zero]; rfl)
            case more23 => exact AllReadyH.nil
            go_simp
            refine (Calls.mono (onesl_any (some ⟨g2, 0, none⟩) C.length C _ HC100.out HQx5.out.row HQx5.out.byt) ?_); rintro e u6 ⟨rfl, gg6⟩
            have HBx6 := hide (below_step HBx5.out gg6)
            have HFx6 := hide (HFx5.out.below gg6)
            have HQx6 := hide (HQx5.out.below gg6)
            have HGx6 := hide (HGx5.out.below gg6)
            refine hK.out _ _ gg6 (fun _ => bel_switch gg6 ?_)
            clear hK K gg6 HBx5 HFx5 HQx5 HGx5
            try simp only [Act.put, List.setIfInBounds_toArray, List.set_cons_zero, List.set_cons_succ]
            refine' bel_take (i := 24) (v := _) ?hi24 (by kernel_rfl) (by kernel_rfl) (by kernel_rfl) (Or.inl ⟨?hw24, ?hy24⟩) ?rest24
            case hi24 => (simp only [List.getElem?_toArray, List.getElem?_cons_succ, List.getElem?_cons_zero]; rfl)
            case hw24 => rfl
            case hy24 => (intro w' hw'; go_simp; try with_reducible rfl)
            try simp only [Act.put, List.setIfInBounds_toArray, List.set_cons_zero, List.set_cons_succ]
            refine' bel_take (i := 25) (v := _) ?hi25 (by kernel_rfl) (by kernel_rfl) (by kernel_rfl) (Or.inl ⟨?hw25, ?hy25⟩) ?rest25
            case hi25 => (simp only [List.getElem?_toArray, List.getElem?_cons_succ, List.getElem?_cons_zero]; rfl)
            case hw25 => rfl
            case hy25 => (intro w' hw'; go_simp; try with_reducible rfl)
            try simp only [Act.put, List.setIfInBounds_toArray, List.set_cons_zero, List.set_cons_succ]
            refine' bel_take (i := 26) (v := _) ?hi26 (by kernel_rfl) (by kernel_rfl) (by kernel_rfl) (Or.inl ⟨?hw26, ?hy26⟩) ?rest26
            case hi26 => (simp only [List.getElem?_toArray, List.getElem?_cons_succ, List.getElem?_cons_zero]; rfl)
            case hw26 => rfl
            case hy26 => (intro w' hw'; go_simp; try with_reducible rfl)
            try simp only [Act.put, List.setIfInBounds_toArray, List.set_cons_zero, List.set_cons_succ]
            refine' bel_take (i := 27) (v := _) ?hi27 (by kernel_rfl) (by kernel_rfl) (by kernel_rfl) (Or.inl ⟨?hw27, ?hy27⟩) ?rest27
            case hi27 => (simp only [List.getElem?_toArray, List.getElem?_cons_succ, List.getElem?_cons_zero]; rfl)
            case hw27 => rfl
            case hy27 => (intro w' hw'; go_simp; try with_reducible rfl)
            try simp only [Act.put, List.setIfInBounds_toArray, List.set_cons_zero, List.set_cons_succ]
            refine' bel_take (i := 28) (v := _) ?hi28 (by kernel_rfl) (by kernel_rfl) (by kernel_rfl) (Or.inl ⟨?hw28, ?hy28⟩) ?rest28
            case hi28 => (simp only [List.getElem?_toArray, List.getElem?_cons_succ, List.getElem?_cons_zero]; rfl)
            case hw28 => rfl
            case hy28 => (intro w' hw'; go_simp; try with_reducible rfl)
            try simp only [Act.put, List.setIfInBounds_toArray, List.set_cons_zero, List.set_cons_succ]
            refine' bel_take (i := 29) (v := _) ?hi29 (by kernel_rfl) (by kernel_rfl) (by kernel_rfl) (Or.inl ⟨?hw29, ?hy29⟩) ?rest29
            case hi29 => (simp only [List.getElem?_toArray, List.getElem?_cons_succ, List.getElem?_cons_zero]; rfl)
            case hw29 => rfl
            case hy29 => (intro w' hw'; go_simp; try with_reducible rfl)
            try simp only [Act.put, List.setIfInBounds_toArray, List.set_cons_zero, List.set_cons_succ]
            refine' bel_take (i := 30) (v := _) ?hi30 (by kernel_rfl) (by kernel_rfl) (by kernel_rfl) (Or.inl ⟨?hw30, ?hy30⟩) ?rest30
            case hi30 => (simp only [List.getElem?_toArray, List.getElem?_cons_succ, List.getElem?_cons_zero]; rfl)
            case hw30 => rfl
            case hy30 => (intro w' hw'; go_simp; try with_reducible rfl)
            try simp only [Act.put, List.setIfInBounds_toArray, List.set_cons_zero, List.set_cons_succ]
            refine' bel_take (i := 31) (v := _) ?hi31 (by kernel_rfl) (by kernel_rfl) (by kernel_rfl) (Or.inl ⟨?hw31, ?hy31⟩) ?rest31
            case hi31 => (simp only [List.getElem?_toArray, List.getElem?_cons_succ, List.getElem?_cons_zero]; rfl)
            case hw31 => rfl
            case hy31 => (intro w' hw'; go_simp; try with_reducible rfl)
            try simp only [Act.put, List.setIfInBounds_toArray, List.set_cons_zero, List.set_cons_succ]
            refine' bel_take (i := 32) (v := _) ?hi32 (by kernel_rfl) (by kernel_rfl) (by kernel_rfl) (Or.inl ⟨?hw32, ?hy32⟩) ?rest32
            case hi32 => (simp only [List.getElem?_toArray, List.getElem?_cons_succ, List.getElem?_cons_zero]; rfl)
            case hw32 => rfl
            case hy32 => (intro w' hw'; go_simp; try with_reducible rfl)
            try simp only [Act.put, List.setIfInBounds_toArray, List.set_cons_zero, List.set_cons_succ]
            refine' bel_take (i := 33) (v := _) ?hi33 (by kernel_rfl) (by kernel_rfl) (by kernel_rfl) (Or.inl ⟨?hw33, ?hy33⟩) ?rest33
            case hi33 => (simp only [List.getElem?_toArray, List.getElem?_cons_succ, List.getElem?_cons_zero]; rfl)
            case hw33 => rfl
            case hy33 => (intro w' hw'; go_simp; try with_reducible rfl)
            try simp only [Act.put, List.setIfInBounds_toArray, List.set_cons_zero, List.set_cons_succ]
            refine' bel_take (i := 34) (v := _) ?hi34 (by kernel_rfl) (by kernel_rfl) (by kernel_rfl) (Or.inl ⟨?hw34, ?hy34⟩) ?rest34
            case hi34 => (simp only [List.getElem?_toArray, List.getElem?_cons_succ, List.getElem?_cons_zero]; rfl)
            case hw34 => rfl
            case hy34 => (intro w' hw'; go_simp; try with_reducible rfl)
            try simp only [Act.put, List.setIfInBounds_toArray, List.set_cons_zero, List.set_cons_succ]
            refine' bel_take (i := 35) (v := _) ?hi35 (by kernel_rfl) (by kernel_rfl) (by kernel_rfl) (Or.inl ⟨?hw35, ?hy35⟩) ?rest35
            case hi35 => (simp only [List.getElem?_toArray, List.getElem?_cons_succ, List.getElem?_cons_zero]; rfl)
            case hw35 => rfl
            case hy35 => (intro w' hw'; go_simp; try with_reducible rfl)
            try simp only [Act.put, List.setIfInBounds_toArray, List.set_cons_zero, List.set_cons_succ]
            refine' bel_take (i := 38) (v := _) ?hi38 (by kernel_rfl) (by kernel_rfl) (by kernel_rfl) (Or.inl ⟨?hw38, ?hy38⟩) ?rest38
            case hi38 => (simp only [List.getElem?_toArray, List.getElem?_cons_succ, List.getElem?_cons_zero]; rfl)
            case hw38 => rfl
            case hy38 => (intro w' hw'; go_simp; try with_reducible rfl)
            try simp only [Act.put, List.setIfInBounds_toArray, List.set_cons_zero, List.set_cons_succ]
            refine wpAnyH_ready (rs := [36]) (by kernel_rfl) (by simp) ?_
            refine' AllReadyH.cons (o := _) ?ho36 (fun K hK => ?step36) ?more36
            case ho36 => (simp only [List.getElem?_toArray, List.getElem?_cons_succ, List.getElem?_cons_zero]; rfl)
            case more36 => exact AllReadyH.nil
            go_simp
            refine (Calls.mono (bytes_v _ HGx6.out) ?_); rintro e u7 ⟨x7, rfl, o7, gg7⟩
            have HBx7 := hide (below_step HBx6.out gg7)
            have HFx7 := hide (HFx6.out.below gg7)
            have HQx7 := hide (HQx6.out.below gg7)
            have HGx7 := hide (HGx6.out.below gg7)
            obtain ⟨B7, k7, e7, r7, _, _⟩ := o7.vals
            subst e7
            have HV7 := hide r7
            clear o7 r7
            refine hK.out _ _ gg7 (fun _ => bel_switch gg7 ?_)
            clear hK K gg7 HBx6 HFx6 HQx6 HGx6
            try simp only [Act.put, List.setIfInBounds_toArray, List.set_cons_zero, List.set_cons_succ]
            refine' bel_take (i := 37) (v := _) ?hi37 (by kernel_rfl) (by kernel_rfl) (by kernel_rfl) (Or.inl ⟨?hw37, ?hy37⟩) ?rest37
            case hi37 => (simp only [List.getElem?_toArray, List.getElem?_cons_succ, List.getElem?_cons_zero]; rfl)
            case hw37 => rfl
            case hy37 => (intro w' hw'; have hc := conv_vals (c := k7) (HV7.out.below hw') HBN.out; go_simp; try with_reducible rfl)
            try simp only [Act.put, List.setIfInBounds_toArray, List.set_cons_zero, List.set_cons_succ]
            refine wpAnyH_ready (rs := [39]) (by kernel_rfl) (by simp) ?_
            refine' AllReadyH.cons (o := _) ?ho39 (fun K hK => ?step39) ?more39
            case ho39 => (simp only [List.getElem?_toArray, List.getElem?_cons_succ, List.getElem?_cons_zero]; rfl)
            case more39 => exact AllReadyH.nil
            go_simp
            refine (Calls.mono (rbytes_any _ HQx7.out) ?_); rintro e u8 ⟨rfl, gg8⟩
            have HBx8 := hide (below_step HBx7.out gg8)
            have HFx8 := hide (HFx7.out.below gg8)
            have HQx8 := hide (HQx7.out.below gg8)
            have HGx8 := hide (HGx7.out.below gg8)
            refine hK.out _ _ gg8 (fun _ => bel_switch gg8 ?_)
            clear hK K gg8 HBx7 HFx7 HQx7 HGx7
            try simp only [Act.put, List.setIfInBounds_toArray, List.set_cons_zero, List.set_cons_succ]
            refine' bel_take (i := 40) (v := _) ?hi40 (by kernel_rfl) (by kernel_rfl) (by kernel_rfl) (Or.inl ⟨?hw40, ?hy40⟩) ?rest40
            case hi40 => (simp only [List.getElem?_toArray, List.getElem?_cons_succ, List.getElem?_cons_zero]; rfl)
            case hw40 => rfl
            case hy40 => (intro w' hw'; go_simp; try with_reducible rfl)
            try simp only [Act.put, List.setIfInBounds_toArray, List.set_cons_zero, List.set_cons_succ]
            refine' bel_take (i := 41) (v := _) ?hi41 (by kernel_rfl) (by kernel_rfl) (by kernel_rfl) (Or.inl ⟨?hw41, ?hy41⟩) ?rest41
            case hi41 => (simp only [List.getElem?_toArray, List.getElem?_cons_succ, List.getElem?_cons_zero]; rfl)
            case hw41 => rfl
            case hy41 => (intro w' hw'; go_simp; try with_reducible rfl)
            try simp only [Act.put, List.setIfInBounds_toArray, List.set_cons_zero, List.set_cons_succ]
            refine' bel_take (i := 42) (v := _) ?hi42 (by kernel_rfl) (by kernel_rfl) (by kernel_rfl) (Or.inl ⟨?hw42, ?hy42⟩) ?rest42
            case hi42 => (simp only [List.getElem?_toArray, List.getElem?_cons_succ, List.getElem?_cons_zero]; rfl)
            case hw42 => rfl
            case hy42 => (intro w' hw'; go_simp; try with_reducible rfl)
            try simp only [Act.put, List.setIfInBounds_toArray, List.set_cons_zero, List.set_cons_succ]
            refine' bel_take (i := 43) (v := _) ?hi43 (by kernel_rfl) (by kernel_rfl) (by kernel_rfl) (Or.inl ⟨?hw43, ?hy43⟩) ?rest43
            case hi43 => (simp only [List.getElem?_toArray, List.getElem?_cons_succ, List.getElem?_cons_zero]; rfl)
            case hw43 => rfl
            case hy43 => (intro w' hw'; go_simp; try with_reducible rfl)
            try simp only [Act.put, List.setIfInBounds_toArray, List.set_cons_zero, List.set_cons_succ]
            refine' bel_take (i := 44) (v := _) ?hi44 (by kernel_rfl) (by kernel_rfl) (by kernel_rfl) (Or.inl ⟨?hw44, ?hy44⟩) ?rest44
            case hi44 => (simp only [List.getElem?_toArray, List.getElem?_cons_succ, List.getElem?_cons_zero]; rfl)
            case hw44 => rfl
            case hy44 => (intro w' hw'; go_simp; try with_reducible rfl)
            try simp only [Act.put, List.setIfInBounds_toArray, List.set_cons_zero, List.set_cons_succ]
            refine' bel_take (i := 46) (v := _) ?hi46 (by kernel_rfl) (by kernel_rfl) (by kernel_rfl) (Or.inl ⟨?hw46, ?hy46⟩) ?rest46
            case hi46 => (simp only [List.getElem?_toArray, List.getElem?_cons_succ, List.getElem?_cons_zero]; rfl)
            case hw46 => rfl
            case hy46 => (intro w' hw'; go_simp; try with_reducible rfl)
            try simp only [Act.put, List.setIfInBounds_toArray, List.set_cons_zero, List.set_cons_succ]
            refine' bel_take (i := 47) (v := _) ?hi47 (by kernel_rfl) (by kernel_rfl) (by kernel_rfl) (Or.inl ⟨?hw47, ?hy47⟩) ?rest47
            case hi47 => (simp only [List.getElem?_toArray, List.getElem?_cons_succ, List.getElem?_cons_zero]; rfl)
            case hw47 => rfl
            case hy47 => (intro w' hw'; go_simp; try with_reducible rfl)
            try simp only [Act.put, List.setIfInBounds_toArray, List.set_cons_zero, List.set_cons_succ]
            refine wpAnyH_ready (rs := [45]) (by kernel_rfl) (by simp) ?_
            refine' AllReadyH.cons (o := _) ?ho45 (fun K hK => ?step45) ?more45
            case ho45 => (simp only [List.getElem?_toArray, List.getElem?_cons_succ, List.getElem?_cons_zero]; rfl)
            case more45 => exact AllReadyH.nil
            go_simp
            refine (Calls.mono (has_v A3 c3 L3 _ HGx8.out HL3.out (HR3.out.below HBx8.out) HB3.out) ?_); rintro e u9 ⟨rfl, gg9⟩
            have HBx9 := hide (below_step HBx8.out gg9)
            have HFx9 := hide (HFx8.out.below gg9)
            have HQx9 := hide (HQx8.out.below gg9)
            have HGx9 := hide (HGx8.out.below gg9)
            rw [HZ.out]
            refine hK.out _ _ gg9 (fun _ => bel_switch gg9 ?_)
            clear hK K gg9 HBx8 HFx8 HQx8 HGx8
            try simp only [Act.put, List.setIfInBounds_toArray, List.set_cons_zero, List.set_cons_succ]
            refine wpAnyH_ready (rs := [48]) (by kernel_rfl) (by simp) ?_
            refine' AllReadyH.cons (o := _) ?ho48 (fun K hK => ?step48) ?more48
            case ho48 => (simp only [List.getElem?_toArray, List.getElem?_cons_succ, List.getElem?_cons_zero]; rfl)
            case more48 => exact AllReadyH.nil
            go_simp
            refine (Calls.mono (has_any A3 c3 L3 _ HFx9.out HL3.out (HR3.out.below HBx9.out) HB3.out) ?_); rintro e u10 ⟨rfl, gg10⟩
            have HBx10 := hide (below_step HBx9.out gg10)
            have HFx10 := hide (HFx9.out.below gg10)
            have HQx10 := hide (HQx9.out.below gg10)
            have HGx10 := hide (HGx9.out.below gg10)
            rw [HZ.out]
            refine hK.out _ _ gg10 (fun _ => bel_switch gg10 ?_)
            clear hK K gg10 HBx9 HFx9 HQx9 HGx9
            try simp only [Act.put, List.setIfInBounds_toArray, List.set_cons_zero, List.set_cons_succ]
            refine' bel_take (i := 49) (v := _) ?hi49 (by kernel_rfl) (by kernel_rfl) (by kernel_rfl) (Or.inl ⟨?hw49, ?hy49⟩) ?rest49
            case hi49 => (simp only [List.getElem?_toArray, List.getElem?_cons_succ, List.getElem?_cons_zero]; rfl)
            case hw49 => rfl
            case hy49 => (intro w' hw'; go_simp; try with_reducible rfl)
            try simp only [Act.put, List.setIfInBounds_toArray, List.set_cons_zero, List.set_cons_succ]
            refine' bel_take (i := 50) (v := _) ?hi50 (by kernel_rfl) (by kernel_rfl) (by kernel_rfl) (Or.inl ⟨?hw50, ?hy50⟩) ?rest50
            case hi50 => (simp only [List.getElem?_toArray, List.getElem?_cons_succ, List.getElem?_cons_zero]; rfl)
            case hw50 => rfl
            case hy50 => (intro w' hw'; go_simp; try with_reducible rfl)
            try simp only [Act.put, List.setIfInBounds_toArray, List.set_cons_zero, List.set_cons_succ]
            refine' bel_take (i := 51) (v := _) ?hi51 (by kernel_rfl) (by kernel_rfl) (by kernel_rfl) (Or.inl ⟨?hw51, ?hy51⟩) ?rest51
            case hi51 => (simp only [List.getElem?_toArray, List.getElem?_cons_succ, List.getElem?_cons_zero]; rfl)
            case hw51 => rfl
            case hy51 => (intro w' hw'; go_simp; try with_reducible rfl)
            try simp only [Act.put, List.setIfInBounds_toArray, List.set_cons_zero, List.set_cons_succ]
            refine wpAnyH_ready (rs := [52]) (by kernel_rfl) (by simp) ?_
            refine' AllReadyH.cons (o := _) ?ho52 (fun K hK => ?step52) ?more52
            case ho52 => (simp only [List.getElem?_toArray, List.getElem?_cons_succ, List.getElem?_cons_zero]; rfl)
            case more52 => exact AllReadyH.nil
            go_simp
            refine (Calls.mono (awake_any _) ?_); rintro e u11 ⟨rfl, gg11⟩
            have HBx11 := hide (below_step HBx10.out gg11)
            have HFx11 := hide (HFx10.out.below gg11)
            have HQx11 := hide (HQx10.out.below gg11)
            have HGx11 := hide (HGx10.out.below gg11)
            refine hK.out _ _ gg11 (fun _ => bel_switch gg11 ?_)
            clear hK K gg11 HBx10 HFx10 HQx10 HGx10
            try simp only [Act.put, List.setIfInBounds_toArray, List.set_cons_zero, List.set_cons_succ]
            refine' bel_take (i := 53) (v := _) ?hi53 (by kernel_rfl) (by kernel_rfl) (by kernel_rfl) (Or.inl ⟨?hw53, ?hy53⟩) ?rest53
            case hi53 => (simp only [List.getElem?_toArray, List.getElem?_cons_succ, List.getElem?_cons_zero]; rfl)
            case hw53 => rfl
            case hy53 => (intro w' hw'; go_simp; try with_reducible rfl)
            try simp only [Act.put, List.setIfInBounds_toArray, List.set_cons_zero, List.set_cons_succ]
            refine' bel_take (i := 54) (v := _) ?hi54 (by kernel_rfl) (by kernel_rfl) (by kernel_rfl) (Or.inl ⟨?hw54, ?hy54⟩) ?rest54
            case hi54 => (simp only [List.getElem?_toArray, List.getElem?_cons_succ, List.getElem?_cons_zero]; rfl)
            case hw54 => rfl
            case hy54 => (intro w' hw'; go_simp; try with_reducible rfl)
            try simp only [Act.put, List.setIfInBounds_toArray, List.set_cons_zero, List.set_cons_succ]
            refine wpAnyH_done (by kernel_rfl) ?_ _
            refine NoPanic.normal ?_
            go_wp2_with fail
            go_ret
            exact ⟨rfl, HBx11.out⟩
      · have hkc : ¬ (j : Int) < (L2.length : Int) := by omega
        go_wp2_with fail
        go_loopw [13] (fun i wr => ∃ m : Nat, m ≤ j ∧ i = .int .i64 m ∧ Flt wr p g K C ∧ RFlt wr p2 g2 K C ∧ Below w.heap.size w wr) (fun i _ => j - (intOf i).toNat)
        case atStart => exact ⟨0, by omega, rfl, HF.out, HR.out, HB.out⟩
        case round =>
          clear HF HR HB
          obtain ⟨m, hm, rfl, hf, hr, hb⟩ := hrel
          have HF := hide hf
          have HR := hide hr
          have HB := hide hb
          clear hf hr
          by_cases hmlt : m < j
          · have hmL : m < L2.length := by omega
            have hmc : (m : Int) < (L2.length : Int) := by omega
            have hmd : (m : Int) < 40 := by have := HNN.out; omega
            obtain ⟨b, off, hA, hbw, y0⟩ := RowAt.one (val := fun s : Sv Int => s.val) HR2.out hb hmL
            have hgood := HW2.out (L2[m]'hmL) (List.getElem_mem hmL)
            have hh := HIN.out m hmL hmlt
            generalize (L2[m]'hmL) = s at *
            obtain ⟨As, cs, Ls⟩ := s
            subst hA
            replace y0 : wr.cell? ⟨b, off + m, none⟩ = some (.slice As Ls.length cs) := y0
            have HGD := hide hgood
            have HHH := hide hh
            have HBS : Hid (∀ b ∈ Ls, isB b) := hide (fun b hb => bounds_u8 (HGD.out.ok b hb))
            have HLS : Hid (Ls.length ≤ 9223372036854775807) := hide (Nat.le_trans hgood.lc hgood.cm)
            clear hgood hh hb
            go_wp2_with fail
            refine (Calls.mono (has_any As cs Ls _ HF.out HLS.out ((HGD.out.below HB.out).row) HBS.out) ?_); rintro e w6 ⟨rfl, hg6⟩
            rw [HCL.out, show placesL (hashL Ls) S K = plG S K Ls from rfl, HHH.out]
            have HF6 := hide (HF.out.below hg6)
            have HR6 := hide (HR.out.below hg6)
            have HB6 := hide (below_step HB.out hg6)
            clear hg6 HF HR HB
            go_wp2_with fail
            go_roundw
            case rel => exact ⟨m + 1, by omega, by go_num, HF6.out, HR6.out, HB6.out⟩
            case measure => simp [intOf]; omega
          · obtain rfl : m = j := by omega
            have hcl := HCL.out
            have HC8 : Hid (8 ≤ C.length ∧ C.length ≤ 25000) := hide (by omega)
            obtain ⟨re, rr, rk⟩ := read_bytes (B := C) HF.out.k1 HC8.out
            have hbl : (bytesL K C).length ≤ 26000 := by
              have h1 := putL_len K; have h2 := putL_len C.length
              unfold bytesL
              rw [List.length_append, List.length_append]
              omega
            have hbn : bytesL K C ≠ [] := fun e => by have := HC8.out; unfold bytesL at e; rw [(List.append_eq_nil_iff.1 e).2] at this; simp at this
            have hbb : ∀ b ∈ bytesL K C, isB b := bytesL_isB HF.out.byt
            have HRE := hide re
            have HRR := hide rr
            have HRK := hide rk
            have HBL := hide hbl
            have HBN := hide hbn
            have HBBB := hide hbb
            clear hb re rr rk hbl hbn hbb hcl
            go_wp2_with fail
            refine (Calls.mono (bytes_any _ HF.out) ?_); rintro e w7 ⟨v7, rfl, ho7, hg7⟩
            obtain ⟨g7, c7, rfl, _, _, hr7, hl7, hm7⟩ := own_form ho7 HBN.out
            have HR7 := hide hr7
            have HF7 := hide (HF.out.below hg7)
            have HQ7 := hide (HR.out.below hg7)
            have HB7 := hide (below_step HB.out hg7)
            clear hg7 HF HR HB ho7 hr7
            have HRD := hide (read_any (some ⟨g7, 0, none⟩) c7 (bytesL K C) w7 (by have := HBL.out; omega) hl7 hm7 HR7.out HBBB.out)
            rw [HRE.out, HRR.out, HRK.out] at HRD
            obtain ⟨X, hX⟩ : ∃ X, bytesL K C = X := ⟨_, rfl⟩
            rw [hX] at HRD
            have HX := hide hX
            have hlX : (bytesL K C).length = X.length := by rw [hX]
            rw [hX] at hl7
            clear hX
            simp only [hlX]
            clear hlX
            go_wp2_with fail
            refine (Calls.mono HRD.out ?_); rintro e w8 ⟨hg8, ⟨hx, _⟩ | ⟨_, p3, g3, gc3, k3, rfl, _, hk3, hG⟩⟩
            · exact absurd rfl hx
            obtain rfl : k3 = K := by omega
            have HG8 := hide hG
            have HF8 := hide (HF7.out.below hg8)
            have HQ8 := hide (HQ7.out.below hg8)
            have HB8 := hide (below_step HB7.out hg8)
            clear hg8 HF7 HQ7 HB7 hG HRD
            go_wp2_with fail
            obtain ⟨z, hz⟩ : ∃ z, hasL C (placesL (hashL L3) C.length k3) = z := ⟨_, rfl⟩
            have HZ := hide hz
            have HL3 : Hid (L3.length ≤ 9223372036854775807) := hide (by omega)
            have HC100 : Hid (C.length ≤ 100000) := hide (Nat.le_trans HC8.out.2 (by decide))
            clear hz
            have hdr : Below w8.heap.size w8 w8.drew := (Below.refl _ _).drew
            have HBx0 := hide (below_step HB8.out hdr)
            have HFx0 := hide (HF8.out.below hdr)
            have HQx0 := hide (HQ8.out.below hdr)
            have HGx0 := hide (HG8.out.below hdr)
            clear hdr HB8 HF8 HQ8 HG8
            refine bel_start (by kernel_rfl) ?_
            refine' bel_take (i := 0) (v := _) ?hi0b (by kernel_rfl) (by kernel_rfl) (by kernel_rfl) (Or.inl ⟨?hw0b, ?hy0b⟩) ?rest0b
            case hi0b => (simp only [List.getElem?_toArray, List.getElem?_cons_succ, List.getElem?_cons_zero]; rfl)
            case hw0b => rfl
            case hy0b => (intro w' hw'; go_simp; try with_reducible rfl)
            try simp only [Act.put, List.setIfInBounds_toArray, List.set_cons_zero, List.set_cons_succ]
            refine' bel_take (i := 3) (v := _) ?hi3b (by kernel_rfl) (by kernel_rfl) (by kernel_rfl) (Or.inl ⟨?hw3b, ?hy3b⟩) ?rest3b
            case hi3b => (simp only [List.getElem?_toArray, List.getElem?_cons_succ, List.getElem?_cons_zero]; rfl)
            case hw3b => rfl
            case hy3b => (intro w' hw'; go_simp; try with_reducible rfl)
            try simp only [Act.put, List.setIfInBounds_toArray, List.set_cons_zero, List.set_cons_succ]
            refine wpAnyH_ready (rs := [1]) (by kernel_rfl) (by simp) ?_
            refine' AllReadyH.cons (o := _) ?ho1b (fun K hK => ?step1b) ?more1b
            case ho1b => (simp only [List.getElem?_toArray, List.getElem?_cons_succ, List.getElem?_cons_zero]; rfl)
            case more1b => exact AllReadyH.nil
            go_simp
            refine (Calls.mono (bytes_any _ HFx0.out) ?_); rintro e u1 ⟨x1, rfl, o1, gg1⟩
            have HBx1 := hide (below_step HBx0.out gg1)
            have HFx1 := hide (HFx0.out.below gg1)
            have HQx1 := hide (HQx0.out.below gg1)
            have HGx1 := hide (HGx0.out.below gg1)
            obtain ⟨B1, k1, e1, r1, _, _⟩ := o1.vals
            subst e1
            have HV1 := hide r1
            clear o1 r1
            refine hK.out _ _ gg1 (fun _ => bel_switch gg1 ?_)
            clear hK K gg1 HBx0 HFx0 HQx0 HGx0
            try simp only [Act.put, List.setIfInBounds_toArray, List.set_cons_zero, List.set_cons_succ]
            refine' bel_take (i := 2) (v := _) ?hi2b (by kernel_rfl) (by kernel_rfl) (by kernel_rfl) (Or.inl ⟨?hw2b, ?hy2b⟩) ?rest2b
            case hi2b => (simp only [List.getElem?_toArray, List.getElem?_cons_succ, List.getElem?_cons_zero]; rfl)
            case hw2b => rfl
            case hy2b => (intro w' hw'; have hc := conv_vals (c := k1) (HV1.out.below hw') HBN.out; go_simp; try with_reducible rfl)
            try simp only [Act.put, List.setIfInBounds_toArray, List.set_cons_zero, List.set_cons_succ]
            refine wpAnyH_ready (rs := [4]) (by kernel_rfl) (by simp) ?_
            refine' AllReadyH.cons (o := _) ?ho4b (fun K hK => ?step4b) ?more4b
            case ho4b => (simp only [List.getElem?_toArray, List.getElem?_cons_succ, List.getElem?_cons_zero]; rfl)
            case more4b => exact AllReadyH.nil
            go_simp
            refine (Calls.mono (rbytes_any _ HQx1.out) ?_); rintro e u2 ⟨rfl, gg2⟩
            have HBx2 := hide (below_step HBx1.out gg2)
            have HFx2 := hide (HFx1.out.below gg2)
            have HQx2 := hide (HQx1.out.below gg2)
            have HGx2 := hide (HGx1.out.below gg2)
            have HV1 := hide (HV1.out.below gg2)
            refine hK.out _ _ gg2 (fun _ => bel_switch gg2 ?_)
            clear hK K gg2 HBx1 HFx1 HQx1 HGx1
            try simp only [Act.put, List.setIfInBounds_toArray, List.set_cons_zero, List.set_cons_succ]
            refine' bel_take (i := 5) (v := _) ?hi5b (by kernel_rfl) (by kernel_rfl) (by kernel_rfl) (Or.inl ⟨?hw5b, ?hy5b⟩) ?rest5b
            case hi5b => (simp only [List.getElem?_toArray, List.getElem?_cons_succ, List.getElem?_cons_zero]; rfl)
            case hw5b => rfl
            case hy5b => (intro w' hw'; go_simp; try with_reducible rfl)
            try simp only [Act.put, List.setIfInBounds_toArray, List.set_cons_zero, List.set_cons_succ]
            refine' bel_take (i := 6) (v := _) ?hi6b (by kernel_rfl) (by kernel_rfl) (by kernel_rfl) (Or.inl ⟨?hw6b, ?hy6b⟩) ?rest6b
            case hi6b => (simp only [List.getElem?_toArray, List.getElem?_cons_succ, List.getElem?_cons_zero]; rfl)
            case hw6b => rfl
            case hy6b => (intro w' hw'; go_simp; try with_reducible rfl)
            try simp only [Act.put, List.setIfInBounds_toArray, List.set_cons_zero, List.set_cons_succ]
            refine' bel_take (i := 7) (v := _) ?hi7b (by kernel_rfl) (by kernel_rfl) (by kernel_rfl) (Or.inl ⟨?hw7b, ?hy7b⟩) ?rest7b
            case hi7b => (simp only [List.getElem?_toArray, List.getElem?_cons_succ, List.getElem?_cons_zero]; rfl)
            case hw7b => rfl
            case hy7b => (intro w' hw'; go_simp; try with_reducible rfl)
            try simp only [Act.put, List.setIfInBounds_toArray, List.set_cons_zero, List.set_cons_succ]
            refine' bel_take (i := 8) (v := _) ?hi8b (by kernel_rfl) (by kernel_rfl) (by kernel_rfl) (Or.inl ⟨?hw8b, ?hy8b⟩) ?rest8b
            case hi8b => (simp only [List.getElem?_toArray, List.getElem?_cons_succ, List.getElem?_cons_zero]; rfl)
            case hw8b => rfl
            case hy8b => (intro w' hw'; go_simp; try with_reducible rfl)
            try simp only [Act.put, List.setIfInBounds_toArray, List.set_cons_zero, List.set_cons_succ]
            refine' bel_take (i := 10) (v := _) ?hi10b (by kernel_rfl) (by kernel_rfl) (by kernel_rfl) (Or.inl ⟨?hw10b, ?hy10b⟩) ?rest10b
            case hi10b => (simp only [List.getElem?_toArray, List.getElem?_cons_succ, List.getElem?_cons_zero]; rfl)
            case hw10b => rfl
            case hy10b => (intro w' hw'; go_simp; try with_reducible rfl)
            try simp only [Act.put, List.setIfInBounds_toArray, List.set_cons_zero, List.set_cons_succ]
            refine' bel_take (i := 11) (v := _) ?hi11b (by kernel_rfl) (by kernel_rfl) (by kernel_rfl) (Or.inl ⟨?hw11b, ?hy11b⟩) ?rest11b
            case hi11b => (simp only [List.getElem?_toArray, List.getElem?_cons_succ, List.getElem?_cons_zero]; rfl)
            case hw11b => rfl
            case hy11b => (intro w' hw'; go_simp; try with_reducible rfl)
            try simp only [Act.put, List.setIfInBounds_toArray, List.set_cons_zero, List.set_cons_succ]
            refine' bel_take (i := 12) (v := _) ?hi12b (by kernel_rfl) (by kernel_rfl) (by kernel_rfl) (Or.inl ⟨?hw12b, ?hy12b⟩) ?rest12b
            case hi12b => (simp only [List.getElem?_toArray, List.getElem?_cons_succ, List.getElem?_cons_zero]; rfl)
            case hw12b => rfl
            case hy12b => (intro w' hw'; have hc := conv_any (c := c3) (HR3.out.below (below_step HBx2.out hw')); go_simp; try with_reducible rfl)
            try simp only [Act.put, List.setIfInBounds_toArray, List.set_cons_zero, List.set_cons_succ]
            refine wpAnyH_ready (rs := [9]) (by kernel_rfl) (by simp) ?_
            refine' AllReadyH.cons (o := _) ?ho9b (fun K hK => ?step9b) ?more9b
            case ho9b => (simp only [List.getElem?_toArray, List.getElem?_cons_succ, List.getElem?_cons_zero]; rfl)
            case more9b => exact AllReadyH.nil
            go_simp
            refine (Calls.mono (has_any A3 c3 L3 _ HFx2.out HL3.out (HR3.out.below HBx2.out) HB3.out) ?_); rintro e u3 ⟨rfl, gg3⟩
            have HBx3 := hide (below_step HBx2.out gg3)
            have HFx3 := hide (HFx2.out.below gg3)
            have HQx3 := hide (HQx2.out.below gg3)
            have HGx3 := hide (HGx2.out.below gg3)
            rw [HZ.out]
            refine hK.out _ _ gg3 (fun _ => bel_switch gg3 ?_)
            clear hK K gg3 HBx2 HFx2 HQx2 HGx2
            try simp only [Act.put, List.setIfInBounds_toArray, List.set_cons_zero, List.set_cons_succ]
            refine wpAnyH_ready (rs := [13]) (by kernel_rfl) (by simp) ?_
            refine' AllReadyH.cons (o := _) ?ho13b (fun K hK => ?step13b) ?more13b
            case ho13b => (simp only [List.getElem?_toArray, List.getElem?_cons_succ, List.getElem?_cons_zero]; rfl)
            case more13b => exact AllReadyH.nil
            go_simp
            refine (Calls.mono (rhas_any L3 _ HQx3.out HL3.out HB3.out) ?_); rintro e u4 ⟨rfl, gg4⟩
            have HBx4 := hide (below_step HBx3.out gg4)
            have HFx4 := hide (HFx3.out.below gg4)
            have HQx4 := hide (HQx3.out.below gg4)
            have HGx4 := hide (HGx3.out.below gg4)
            rw [HZ.out]
            refine hK.out _ _ gg4 (fun _ => bel_switch gg4 ?_)
            clear hK K gg4 HBx3 HFx3 HQx3 HGx3
            try simp only [Act.put, List.setIfInBounds_toArray, List.set_cons_zero, List.set_cons_succ]
            refine' bel_take (i := 14) (v := _) ?hi14b (by kernel_rfl) (by kernel_rfl) (by kernel_rfl) (Or.inl ⟨?hw14b, ?hy14b⟩) ?rest14b
            case hi14b => (simp only [List.getElem?_toArray, List.getElem?_cons_succ, List.getElem?_cons_zero]; rfl)
            case hw14b => rfl
            case hy14b => (intro w' hw'; go_simp; try with_reducible rfl)
            try simp only [Act.put, List.setIfInBounds_toArray, List.set_cons_zero, List.set_cons_succ]
            refine' bel_take (i := 15) (v := _) ?hi15b (by kernel_rfl) (by kernel_rfl) (by kernel_rfl) (Or.inl ⟨?hw15b, ?hy15b⟩) ?rest15b
            case hi15b => (simp only [List.getElem?_toArray, List.getElem?_cons_succ, List.getElem?_cons_zero]; rfl)
            case hw15b => rfl
            case hy15b => (intro w' hw'; go_simp; try with_reducible rfl)
            try simp only [Act.put, List.setIfInBounds_toArray, List.set_cons_zero, List.set_cons_succ]
            refine' bel_take (i := 16) (v := _) ?hi16b (by kernel_rfl) (by kernel_rfl) (by kernel_rfl) (Or.inl ⟨?hw16b, ?hy16b⟩) ?rest16b
            case hi16b => (simp only [List.getElem?_toArray, List.getElem?_cons_succ, List.getElem?_cons_zero]; rfl)
            case hw16b => rfl
            case hy16b => (intro w' hw'; go_simp; try with_reducible rfl)
            try simp only [Act.put, List.setIfInBounds_toArray, List.set_cons_zero, List.set_cons_succ]
            refine' bel_take (i := 17) (v := _) ?hi17b (by kernel_rfl) (by kernel_rfl) (by kernel_rfl) (Or.inl ⟨?hw17b, ?hy17b⟩) ?rest17b
            case hi17b => (simp only [List.getElem?_toArray, List.getElem?_cons_succ, List.getElem?_cons_zero]; rfl)
            case hw17b => rfl
            case hy17b => (intro w' hw'; go_simp; try with_reducible rfl)
            try simp only [Act.put, List.setIfInBounds_toArray, List.set_cons_zero, List.set_cons_succ]
            refine' bel_take (i := 19) (v := _) ?hi19b (by kernel_rfl) (by kernel_rfl) (by kernel_rfl) (Or.inl ⟨?hw19b, ?hy19b⟩) ?rest19b
            case hi19b => (simp only [List.getElem?_toArray, List.getElem?_cons_succ, List.getElem?_cons_zero]; rfl)
            case hw19b => rfl
            case hy19b => (intro w' hw'; go_simp; try with_reducible rfl)
            try simp only [Act.put, List.setIfInBounds_toArray, List.set_cons_zero, List.set_cons_succ]
            refine' bel_take (i := 20) (v := _) ?hi20b (by kernel_rfl) (by kernel_rfl) (by kernel_rfl) (Or.inl ⟨?hw20b, ?hy20b⟩) ?rest20b
            case hi20b => (simp only [List.getElem?_toArray, List.getElem?_cons_succ, List.getElem?_cons_zero]; rfl)
            case hw20b => rfl
            case hy20b => (intro w' hw'; go_simp; try with_reducible rfl)
            try simp only [Act.put, List.setIfInBounds_toArray, List.set_cons_zero, List.set_cons_succ]
            refine' bel_take (i := 21) (v := _) ?hi21b (by kernel_rfl) (by kernel_rfl) (by kernel_rfl) (Or.inl ⟨?hw21b, ?hy21b⟩) ?rest21b
            case hi21b => (simp only [List.getElem?_toArray, List.getElem?_cons_succ, List.getElem?_cons_zero]; rfl)
            case hw21b => rfl
            case hy21b => (intro w' hw'; go_simp; try with_reducible rfl)
            try simp only [Act.put, List.setIfInBounds_toArray, List.set_cons_zero, List.set_cons_succ]
            refine' bel_take (i := 22) (v := _) ?hi22b (by kernel_rfl) (by kernel_rfl) (by kernel_rfl) (Or.inl ⟨?hw22b, ?hy22b⟩) ?rest22b
            case hi22b => (simp only [List.getElem?_toArray, List.getElem?_cons_succ, List.getElem?_cons_zero]; rfl)
            case hw22b => rfl
            case hy22b => (intro w' hw'; have hc := (HQx4.out.below hw').cells.2; go_simp; try with_reducible rfl)
            try simp only [Act.put, List.setIfInBounds_toArray, List.set_cons_zero, List.set_cons_succ]
            refine wpAnyH_ready (rs := [18]) (by kernel_rfl) (by simp) ?_
            refine' AllReadyH.cons (o := _) ?ho18b (fun K hK => ?step18b) ?more18b
            case ho18b => (simp only [List.getElem?_toArray, List.getElem?_cons_succ, List.getElem?_cons_zero]; rfl)
            case more18b => exact AllReadyH.nil
            go_simp
            refine (Calls.mono (ones_any _ HFx4.out) ?_); rintro e u5 ⟨rfl, gg5⟩
            have HBx5 := hide (below_step HBx4.out gg5)
            have HFx5 := hide (HFx4.out.below gg5)
            have HQx5 := hide (HQx4.out.below gg5)
            have HGx5 := hide (HGx4.out.below gg5)
            refine hK.out _ _ gg5 (fun _ => bel_switch gg5 ?_)
            clear hK K gg5 HBx4 HFx4 HQx4 HGx4
            try simp only [Act.put, List.setIfInBounds_toArray, List.set_cons_zero, List.set_cons_succ]
            refine wpAnyH_ready (rs := [23]) (by kernel_rfl) (by simp) ?_
            refine' AllReadyH.cons (o := _) ?ho23b (fun K hK => ?step23b) ?more23b
            case ho23b => (simp only [List.getElem?_toArray, List.getElem?_cons_succ, List.getElem?_cons_zero]; rfl)
            case more23b => exact AllReadyH.nil
            go_simp
            refine (Calls.mono (onesl_any (some ⟨g2, 0, none⟩) C.length C _ HC100.out HQx5.out.row HQx5.out.byt) ?_); rintro e u6 ⟨rfl, gg6⟩
            have HBx6 := hide (below_step HBx5.out gg6)
            have HFx6 := hide (HFx5.out.below gg6)
            have HQx6 := hide (HQx5.out.below gg6)
            have HGx6 := hide (HGx5.out.below gg6)
            refine hK.out _ _ gg6 (fun _ => bel_switch gg6 ?_)
            clear hK K gg6 HBx5 HFx5 HQx5 HGx5
            try simp only [Act.put, List.setIfInBounds_toArray, List.set_cons_zero, List.set_cons_succ]
            refine' bel_take (i := 24) (v := _) ?hi24b (by kernel_rfl) (by kernel_rfl) (by kernel_rfl) (Or.inl ⟨?hw24b, ?hy24b⟩) ?rest24b
            case hi24b => (simp only [List.getElem?_toArray, List.getElem?_cons_succ, List.getElem?_cons_zero]; rfl)
            case hw24b => rfl
            case hy24b => (intro w' hw'; go_simp; try with_reducible rfl)
            try simp only [Act.put, List.setIfInBounds_toArray, List.set_cons_zero, List.set_cons_succ]
            refine' bel_take (i := 25) (v := _) ?hi25b (by kernel_rfl) (by kernel_rfl) (by kernel_rfl) (Or.inl ⟨?hw25b, ?hy25b⟩) ?rest25b
            case hi25b => (simp only [List.getElem?_toArray, List.getElem?_cons_succ, List.getElem?_cons_zero]; rfl)
            case hw25b => rfl
            case hy25b => (intro w' hw'; go_simp; try with_reducible rfl)
            try simp only [Act.put, List.setIfInBounds_toArray, List.set_cons_zero, List.set_cons_succ]
            refine' bel_take (i := 26) (v := _) ?hi26b (by kernel_rfl) (by kernel_rfl) (by kernel_rfl) (Or.inl ⟨?hw26b, ?hy26b⟩) ?rest26b
            case hi26b => (simp only [List.getElem?_toArray, List.getElem?_cons_succ, List.getElem?_cons_zero]; rfl)
            case hw26b => rfl
            case hy26b => (intro w' hw'; go_simp; try with_reducible rfl)
            try simp only [Act.put, List.setIfInBounds_toArray, List.set_cons_zero, List.set_cons_succ]
            refine' bel_take (i := 27) (v := _) ?hi27b (by kernel_rfl) (by kernel_rfl) (by kernel_rfl) (Or.inl ⟨?hw27b, ?hy27b⟩) ?rest27b
            case hi27b => (simp only [List.getElem?_toArray, List.getElem?_cons_succ, List.getElem?_cons_zero]; rfl)
            case hw27b => rfl
            case hy27b => (intro w' hw'; go_simp; try with_reducible rfl)
            try simp only [Act.put, List.setIfInBounds_toArray, List.set_cons_zero, List.set_cons_succ]
            refine' bel_take (i := 28) (v := _) ?hi28b (by kernel_rfl) (by kernel_rfl) (by kernel_rfl) (Or.inl ⟨?hw28b, ?hy28b⟩) ?rest28b
            case hi28b => (simp only [List.getElem?_toArray, List.getElem?_cons_succ, List.getElem?_cons_zero]; rfl)
            case hw28b => rfl
            case hy28b => (intro w' hw'; go_simp; try with_reducible rfl)
            try simp only [Act.put, List.setIfInBounds_toArray, List.set_cons_zero, List.set_cons_succ]
            refine' bel_take (i := 29) (v := _) ?hi29b (by kernel_rfl) (by kernel_rfl) (by kernel_rfl) (Or.inl ⟨?hw29b, ?hy29b⟩) ?rest29b
            case hi29b => (simp only [List.getElem?_toArray, List.getElem?_cons_succ, List.getElem?_cons_zero]; rfl)
            case hw29b => rfl
            case hy29b => (intro w' hw'; go_simp; try with_reducible rfl)
            try simp only [Act.put, List.setIfInBounds_toArray, List.set_cons_zero, List.set_cons_succ]
            refine' bel_take (i := 30) (v := _) ?hi30b (by kernel_rfl) (by kernel_rfl) (by kernel_rfl) (Or.inl ⟨?hw30b, ?hy30b⟩) ?rest30b
            case hi30b => (simp only [List.getElem?_toArray, List.getElem?_cons_succ, List.getElem?_cons_zero]; rfl)
            case hw30b => rfl
            case hy30b => (intro w' hw'; go_simp; try with_reducible rfl)
            try simp only [Act.put, List.setIfInBounds_toArray, List.set_cons_zero, List.set_cons_succ]
            refine' bel_take (i := 31) (v := _) ?hi31b (by kernel_rfl) (by kernel_rfl) (by kernel_rfl) (Or.inl ⟨?hw31b, ?hy31b⟩) ?rest31b
            case hi31b => (simp only [List.getElem?_toArray, List.getElem?_cons_succ, List.getElem?_cons_zero]; rfl)
            case hw31b => rfl
            case hy31b => (intro w' hw'; go_simp; try with_reducible rfl)
            try simp only [Act.put, List.setIfInBounds_toArray, List.set_cons_zero, List.set_cons_succ]
            refine' bel_take (i := 32) (v := _) ?hi32b (by kernel_rfl) (by kernel_rfl) (by kernel_rfl) (Or.inl ⟨?hw32b, ?hy32b⟩) ?rest32b
            case hi32b => (simp only [List.getElem?_toArray, List.getElem?_cons_succ, List.getElem?_cons_zero]; rfl)
            case hw32b => rfl
            case hy32b => (intro w' hw'; go_simp; try with_reducible rfl)
            try simp only [Act.put, List.setIfInBounds_toArray, List.set_cons_zero, List.set_cons_succ]
            refine' bel_take (i := 33) (v := _) ?hi33b (by kernel_rfl) (by kernel_rfl) (by kernel_rfl) (Or.inl ⟨?hw33b, ?hy33b⟩) ?rest33b
            case hi33b => (simp only [List.getElem?_toArray, List.getElem?_cons_succ, List.getElem?_cons_zero]; rfl)
            case hw33b => rfl
            case hy33b => (intro w' hw'; go_simp; try with_reducible rfl)
            try simp only [Act.put, List.setIfInBounds_toArray, List.set_cons_zero, List.set_cons_succ]
            refine' bel_take (i := 34) (v := _) ?hi34b (by kernel_rfl) (by kernel_rfl) (by kernel_rfl) (Or.inl ⟨?hw34b, ?hy34b⟩) ?rest34b
            case hi34b => (simp only [List.getElem?_toArray, List.getElem?_cons_succ, List.getElem?_cons_zero]; rfl)
            case hw34b => rfl
            case hy34b => (intro w' hw'; go_simp; try with_reducible rfl)
            try simp only [Act.put, List.setIfInBounds_toArray, List.set_cons_zero, List.set_cons_succ]
            refine' bel_take (i := 35) (v := _) ?hi35b (by kernel_rfl) (by kernel_rfl) (by kernel_rfl) (Or.inl ⟨?hw35b, ?hy35b⟩) ?rest35b
            case hi35b => (simp only [List.getElem?_toArray, List.getElem?_cons_succ, List.getElem?_cons_zero]; rfl)
            case hw35b => rfl
            case hy35b => (intro w' hw'; go_simp; try with_reducible rfl)
            try simp only [Act.put, List.setIfInBounds_toArray, List.set_cons_zero, List.set_cons_succ]
            refine' bel_take (i := 38) (v := _) ?hi38b (by kernel_rfl) (by kernel_rfl) (by kernel_rfl) (Or.inl ⟨?hw38b, ?hy38b⟩) ?rest38b
            case hi38b => (simp only [List.getElem?_toArray, List.getElem?_cons_succ, List.getElem?_cons_zero]; rfl)
            case hw38b => rfl
            case hy38b => (intro w' hw'; go_simp; try with_reducible rfl)
            try simp only [Act.put, List.setIfInBounds_toArray, List.set_cons_zero, List.set_cons_succ]
            refine wpAnyH_ready (rs := [36]) (by kernel_rfl) (by simp) ?_
            refine' AllReadyH.cons (o := _) ?ho36b (fun K hK => ?step36b) ?more36b
            case ho36b => (simp only [List.getElem?_toArray, List.getElem?_cons_succ, List.getElem?_cons_zero]; rfl)
            case more36b => exact AllReadyH.nil
            go_simp
            refine (Calls.mono (bytes_v _ HGx6.out) ?_); rintro e u7 ⟨x7, rfl, o7, gg7⟩
            have HBx7 := hide (below_step HBx6.out gg7)
            have HFx7 := hide (HFx6.out.below gg7)
            have HQx7 := hide (HQx6.out.below gg7)
            have HGx7 := hide (HGx6.out.below gg7)
            obtain ⟨B7, k7, e7, r7, _, _⟩ := o7.vals
            subst e7
            have HV7 := hide r7
            clear o7 r7
            refine hK.out _ _ gg7 (fun _ => bel_switch gg7 ?_)
            clear hK K gg7 HBx6 HFx6 HQx6 HGx6
            try simp only [Act.put, List.setIfInBounds_toArray, List.set_cons_zero, List.set_cons_succ]
            refine' bel_take (i := 37) (v := _) ?hi37b (by kernel_rfl) (by kernel_rfl) (by kernel_rfl) (Or.inl ⟨?hw37b, ?hy37b⟩) ?rest37b
            case hi37b => (simp only [List.getElem?_toArray, List.getElem?_cons_succ, List.getElem?_cons_zero]; rfl)
            case hw37b => rfl
            case hy37b => (intro w' hw'; have hc := conv_vals (c := k7) (HV7.out.below hw') HBN.out; go_simp; try with_reducible rfl)
            try simp only [Act.put, List.setIfInBounds_toArray, List.set_cons_zero, List.set_cons_succ]
            refine wpAnyH_ready (rs := [39]) (by kernel_rfl) (by simp) ?_
            refine' AllReadyH.cons (o := _) ?ho39b (fun K hK => ?step39b) ?more39b
            case ho39b => (simp only [List.getElem?_toArray, List.getElem?_cons_succ, List.getElem?_cons_zero]; rfl)
            case more39b => exact AllReadyH.nil
            go_simp
            refine (Calls.mono (rbytes_any _ HQx7.out) ?_); rintro e u8 ⟨rfl, gg8⟩
            have HBx8 := hide (below_step HBx7.out gg8)
            have HFx8 := hide (HFx7.out.below gg8)
            have HQx8 := hide (HQx7.out.below gg8)
            have HGx8 := hide (HGx7.out.below gg8)
            refine hK.out _ _ gg8 (fun _ => bel_switch gg8 ?_)
            clear hK K gg8 HBx7 HFx7 HQx7 HGx7
            try simp only [Act.put, List.setIfInBounds_toArray, List.set_cons_zero, List.set_cons_succ]
            refine' bel_take (i := 40) (v := _) ?hi40b (by kernel_rfl) (by kernel_rfl) (by kernel_rfl) (Or.inl ⟨?hw40b, ?hy40b⟩) ?rest40b
            case hi40b => (simp only [List.getElem?_toArray, List.getElem?_cons_succ, List.getElem?_cons_zero]; rfl)
            case hw40b => rfl
            case hy40b => (intro w' hw'; go_simp; try with_reducible rfl)
            try simp only [Act.put, List.setIfInBounds_toArray, List.set_cons_zero, List.set_cons_succ]
            refine' bel_take (i := 41) (v := _) ?hi41b (by kernel_rfl) (by kernel_rfl) (by kernel_rfl) (Or.inl ⟨?hw41b, ?hy41b⟩) ?rest41b
            case hi41b => (simp only [List.getElem?_toArray, List.getElem?_cons_succ, List.getElem?_cons_zero]; rfl)
            case hw41b => rfl
            case hy41b => (intro w' hw'; go_simp; try with_reducible rfl)
            try simp only [Act.put, List.setIfInBounds_toArray, List.set_cons_zero, List.set_cons_succ]
            refine' bel_take (i := 42) (v := _) ?hi42b (by kernel_rfl) (by kernel_rfl) (by kernel_rfl) (Or.inl ⟨?hw42b, ?hy42b⟩) ?rest42b
            case hi42b => (simp only [List.getElem?_toArray, List.getElem?_cons_succ, List.getElem?_cons_zero]; rfl)
            case hw42b => rfl
            case hy42b => (intro w' hw'; go_simp; try with_reducible rfl)
            try simp only [Act.put, List.setIfInBounds_toArray, List.set_cons_zero, List.set_cons_succ]
            refine' bel_take (i := 43) (v := _) ?hi43b (by kernel_rfl) (by kernel_rfl) (by kernel_rfl) (Or.inl ⟨?hw43b, ?hy43b⟩) ?rest43b
            case hi43b => (simp only [List.getElem?_toArray, List.getElem?_cons_succ, List.getElem?_cons_zero]; rfl)
            case hw43b => rfl
            case hy43b => (intro w' hw'; go_simp; try with_reducible rfl)
            try simp only [Act.put, List.setIfInBounds_toArray, List.set_cons_zero, List.set_cons_succ]
            refine' bel_take (i := 44) (v := _) ?hi44b (by kernel_rfl) (by kernel_rfl) (by kernel_rfl) (Or.inl ⟨?hw44b, ?hy44b⟩) ?rest44b
            case hi44b => (simp only [List.getElem?_toArray, List.getElem?_cons_succ, List.getElem?_cons_zero]; rfl)
            case hw44b => rfl
            case hy44b => (intro w' hw'; go_simp; try with_reducible rfl)
            try simp only [Act.put, List.setIfInBounds_toArray, List.set_cons_zero, List.set_cons_succ]
            refine' bel_take (i := 46) (v := _) ?hi46b (by kernel_rfl) (by kernel_rfl) (by kernel_rfl) (Or.inl ⟨?hw46b, ?hy46b⟩) ?rest46b
            case hi46b => (simp only [List.getElem?_toArray, List.getElem?_cons_succ, List.getElem?_cons_zero]; rfl)
            case hw46b => rfl
            case hy46b => (intro w' hw'; go_simp; try with_reducible rfl)
            try simp only [Act.put, List.setIfInBounds_toArray, List.set_cons_zero, List.set_cons_succ]
            refine' bel_take (i := 47) (v := _) ?hi47b (by kernel_rfl) (by kernel_rfl) (by kernel_rfl) (Or.inl ⟨?hw47b, ?hy47b⟩) ?rest47b
            case hi47b => (simp only [List.getElem?_toArray, List.getElem?_cons_succ, List.getElem?_cons_zero]; rfl)
            case hw47b => rfl
            case hy47b => (intro w' hw'; go_simp; try with_reducible rfl)
            try simp only [Act.put, List.setIfInBounds_toArray, List.set_cons_zero, List.set_cons_succ]
            refine wpAnyH_ready (rs := [45]) (by kernel_rfl) (by simp) ?_
            refine' AllReadyH.cons (o := _) ?ho45b (fun K hK => ?step45b) ?more45b
            case ho45b => (simp only [List.getElem?_toArray, List.getElem?_cons_succ, List.getElem?_cons_zero]; rfl)
            case more45b => exact AllReadyH.nil
            go_simp
            refine (Calls.mono (has_v A3 c3 L3 _ HGx8.out HL3.out (HR3.out.below HBx8.out) HB3.out) ?_); rintro e u9 ⟨rfl, gg9⟩
            have HBx9 := hide (below_step HBx8.out gg9)
            have HFx9 := hide (HFx8.out.below gg9)
            have HQx9 := hide (HQx8.out.below gg9)
            have HGx9 := hide (HGx8.out.below gg9)
            rw [HZ.out]
            refine hK.out _ _ gg9 (fun _ => bel_switch gg9 ?_)
            clear hK K gg9 HBx8 HFx8 HQx8 HGx8
            try simp only [Act.put, List.setIfInBounds_toArray, List.set_cons_zero, List.set_cons_succ]
            refine wpAnyH_ready (rs := [48]) (by kernel_rfl) (by simp) ?_
            refine' AllReadyH.cons (o := _) ?ho48b (fun K hK => ?step48b) ?more48b
            case ho48b => (simp only [List.getElem?_toArray, List.getElem?_cons_succ, List.getElem?_cons_zero]; rfl)
            case more48b => exact AllReadyH.nil
            go_simp
            refine (Calls.mono (has_any A3 c3 L3 _ HFx9.out HL3.out (HR3.out.below HBx9.out) HB3.out) ?_); rintro e u10 ⟨rfl, gg10⟩
            have HBx10 := hide (below_step HBx9.out gg10)
            have HFx10 := hide (HFx9.out.below gg10)
            have HQx10 := hide (HQx9.out.below gg10)
            have HGx10 := hide (HGx9.out.below gg10)
            rw [HZ.out]
            refine hK.out _ _ gg10 (fun _ => bel_switch gg10 ?_)
            clear hK K gg10 HBx9 HFx9 HQx9 HGx9
            try simp only [Act.put, List.setIfInBounds_toArray, List.set_cons_zero, List.set_cons_succ]
            refine' bel_take (i := 49) (v := _) ?hi49b (by kernel_rfl) (by kernel_rfl) (by kernel_rfl) (Or.inl ⟨?hw49b, ?hy49b⟩) ?rest49b
            case hi49b => (simp only [List.getElem?_toArray, List.getElem?_cons_succ, List.getElem?_cons_zero]; rfl)
            case hw49b => rfl
            case hy49b => (intro w' hw'; go_simp; try with_reducible rfl)
            try simp only [Act.put, List.setIfInBounds_toArray, List.set_cons_zero, List.set_cons_succ]
            refine' bel_take (i := 50) (v := _) ?hi50b (by kernel_rfl) (by kernel_rfl) (by kernel_rfl) (Or.inl ⟨?hw50b, ?hy50b⟩) ?rest50b
            case hi50b => (simp only [List.getElem?_toArray, List.getElem?_cons_succ, List.getElem?_cons_zero]; rfl)
            case hw50b => rfl
            case hy50b => (intro w' hw'; go_simp; try with_reducible rfl)
            try simp only [Act.put, List.setIfInBounds_toArray, List.set_cons_zero, List.set_cons_succ]
            refine' bel_take (i := 51) (v := _) ?hi51b (by kernel_rfl) (by kernel_rfl) (by kernel_rfl) (Or.inl ⟨?hw51b, ?hy51b⟩) ?rest51b
            case hi51b => (simp only [List.getElem?_toArray, List.getElem?_cons_succ, List.getElem?_cons_zero]; rfl)
            case hw51b => rfl
            case hy51b => (intro w' hw'; go_simp; try with_reducible rfl)
            try simp only [Act.put, List.setIfInBounds_toArray, List.set_cons_zero, List.set_cons_succ]
            refine wpAnyH_ready (rs := [52]) (by kernel_rfl) (by simp) ?_
            refine' AllReadyH.cons (o := _) ?ho52b (fun K hK => ?step52b) ?more52b
            case ho52b => (simp only [List.getElem?_toArray, List.getElem?_cons_succ, List.getElem?_cons_zero]; rfl)
            case more52b => exact AllReadyH.nil
            go_simp
            refine (Calls.mono (awake_any _) ?_); rintro e u11 ⟨rfl, gg11⟩
            have HBx11 := hide (below_step HBx10.out gg11)
            have HFx11 := hide (HFx10.out.below gg11)
            have HQx11 := hide (HQx10.out.below gg11)
            have HGx11 := hide (HGx10.out.below gg11)
            refine hK.out _ _ gg11 (fun _ => bel_switch gg11 ?_)
            clear hK K gg11 HBx10 HFx10 HQx10 HGx10
            try simp only [Act.put, List.setIfInBounds_toArray, List.set_cons_zero, List.set_cons_succ]
            refine' bel_take (i := 53) (v := _) ?hi53b (by kernel_rfl) (by kernel_rfl) (by kernel_rfl) (Or.inl ⟨?hw53b, ?hy53b⟩) ?rest53b
            case hi53b => (simp only [List.getElem?_toArray, List.getElem?_cons_succ, List.getElem?_cons_zero]; rfl)
            case hw53b => rfl
            case hy53b => (intro w' hw'; go_simp; try with_reducible rfl)
            try simp only [Act.put, List.setIfInBounds_toArray, List.set_cons_zero, List.set_cons_succ]
            refine' bel_take (i := 54) (v := _) ?hi54b (by kernel_rfl) (by kernel_rfl) (by kernel_rfl) (Or.inl ⟨?hw54b, ?hy54b⟩) ?rest54b
            case hi54b => (simp only [List.getElem?_toArray, List.getElem?_cons_succ, List.getElem?_cons_zero]; rfl)
            case hw54b => rfl
            case hy54b => (intro w' hw'; go_simp; try with_reducible rfl)
            try simp only [Act.put, List.setIfInBounds_toArray, List.set_cons_zero, List.set_cons_succ]
            refine wpAnyH_done (by kernel_rfl) ?_ _
            refine NoPanic.normal ?_
            go_wp2_with fail
            go_ret
            exact ⟨rfl, HBx11.out⟩
end Go.Proofs.Ytdhpjeenbejajaa.bloomTells
