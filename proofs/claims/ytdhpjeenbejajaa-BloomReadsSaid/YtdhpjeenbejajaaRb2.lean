/- clepsydraref1.Hash, clepsydraref12.Filter's place, Add, Has: contracts. Conditions: typed at each. -/
import Derived.Test.YtdhpjeenbejajaaRb
namespace Go.Proofs.Ytdhpjeenbejajaa
set_option linter.unusedVariables false
set_option linter.unusedSimpArgs false
open Go.ChangeShapes Go.WideShapes Go.ChangeAt Go.RowKit

theorem str_at {L : List Int} (hB : ∀ b ∈ L, isB b) {k : Nat} (hk : k < L.length) (h2 : k < (strOfNums L).size) : (((strOfNums L)[k]'h2).toNat : Int) = L[k] := by
  have h := hB L[k] (List.getElem_mem hk)
  unfold isB at h
  have e : (strOfNums L)[k]'h2 = UInt8.ofNat (L[k].toNat) := by
    show (strOfNums L).data[k]'_ = _
    simp [strOfNums]
  rw [e, UInt8.toNat_ofNat']
  omega

set_option maxHeartbeats 400000 in
theorem rhash_any (L : List Int) (w : World) (hl : L.length ≤ 9223372036854775807) (hB : ∀ b ∈ L, isB b) :
    Calls Try.prog 33 #[.string (strOfNums L)] w fun e w' => e = .returned (.int .u64 (hashL L)) ∧ Below w.heap.size w w' := by
  have hsz := str_len L
  obtain ⟨S, hS⟩ : ∃ S, strOfNums L = S := ⟨_, rfl⟩
  rw [hS] at hsz
  rw [hS]
  go_enter Try.func33, Try.ntmps33
  go_wp2
  go_loopw [3, 4] (fun h i wr => ∃ k : Nat, k ≤ L.length ∧ i = .int .i64 k ∧ h = .int .u64 (hashL (L.take k)) ∧ Below w.heap.size w wr) (fun _ i _ => L.length - (intOf i).toNat)
  case atStart => exact ⟨0, by omega, rfl, rfl, Below.refl _ _⟩
  case round =>
    obtain ⟨k, hk, rfl, rfl, hb⟩ := hrel
    by_cases hlt : k < L.length
    · have h1 := hB L[k] (List.getElem_mem hlt)
      have h2 : hashL (L.take (k + 1)) = hashS (hashL (L.take k)) L[k] := by rw [take_snoc hlt, hashL_snoc]
      have h3 := hashL_bd (L.take k)
      have h4 : (k : Int) < (L.length : Int) := by omega
      have hks : k < S.size := by omega
      have h5 := str_at hB hlt (by rw [hS]; exact hks)
      have h5' : ((S[k]'hks).toNat : Int) = L[k] := by subst hS; exact h5
      generalize (L[k]'hlt) = x at *
      unfold isB at h1
      have e1 : IntKind.u64.wrap x = x := by rw [IntKind.wrap_u64]; omega
      have H2 := hide h2
      clear h2 h5
      generalize hashL (L.take k) = h at *
      go_wp2
      exact ⟨⟨k + 1, by omega, by go_num, by rw [H2.out]; rfl, hb⟩, by simp [intOf]; omega⟩
    · have h2 : L.take k = L := List.take_of_length_le (by omega)
      have H2 := hide h2
      have h4 : ¬ (k : Int) < (L.length : Int) := by omega
      clear h2
      go_wp2
      go_ret
      exact ⟨congrArg (fun l => Ending.returned (.int .u64 (hashL l))) H2.out, hb⟩

set_option maxHeartbeats 1000000 in
theorem place_any {p g k : Nat} {B : List Int} (L : List Int) (i : Int) (w : World) (hF : RFlt w p g k B) (hl : L.length ≤ 9223372036854775807) (hB : ∀ b ∈ L, isB b) (hi : 0 ≤ i ∧ i < 4294967296) :
    Calls Try.prog 27 #[.pointer (some ⟨p, 0, none⟩), .string (strOfNums L), .int .i64 i] w fun e w' => e = .returned (.int .i64 (plc (hashL L) B.length i)) ∧ Below w.heap.size w w' := by
  have HH := hide (rhash_any L w hl hB)
  have hh := hashL_bd L
  have hm := plc_bd (hashL L) B.length i (by have := hF.len; omega)
  generalize hashL L = h at *
  obtain ⟨c0, c1⟩ := hF.cells
  obtain ⟨hlp, hlg⟩ := hF.lt
  obtain ⟨hn1, hn2⟩ := hF.len
  obtain ⟨hi1, hi2⟩ := hi
  generalize hN : B.length = n at *
  generalize strOfNums L = S at *
  go_enter Try.func27, Try.ntmps27
  go_wp2_with fail
  refine (Calls.mono HH.out ?_); rintro e w1 ⟨rfl, hg1⟩
  have c1 := (hg1.cell (p := ⟨p, _, none⟩) hlp).trans c1
  have hw : wrap64 ((h + i * (h / 4294967296)) % 4294967296 % (8 * (n : Int))) = plc h n i := by
    rw [Int.mul_comm 8]
    show wrap64 (plc h n i) = plc h n i
    generalize plc h n i = q at *
    unfold wrap64
    omega
  have HW := hide hw
  clear hw hm
  go_wp2_with fail
  go_ret
  refine ⟨?_, hg1⟩
  rw [← HW.out]
  rfl

set_option maxHeartbeats 1000000 in
theorem radd_any {p g k : Nat} {B : List Int} (L : List Int) (w : World) (hF : RFlt w p g k B) (hl : L.length ≤ 9223372036854775807) (hB : ∀ b ∈ L, isB b) :
    Calls Try.prog 16 #[.pointer (some ⟨p, 0, none⟩), .string (strOfNums L)] w fun e w' => e = .returned (.tuple #[]) ∧ RFlt w' p g k (addL B (placesL (hashL L) B.length k)) ∧ w.grownBy w' (some g) := by
  have HF := hide hF
  have hk1 := hF.k1
  have hln := hF.len
  have HBB := hide hB
  have HQ : Hid (∀ W C i, RFlt W p g k C → C.length = B.length → 0 ≤ i ∧ i < 4294967296 → Calls Try.prog 27 #[.pointer (some ⟨p, 0, none⟩), .string (strOfNums L), .int .i64 i] W fun e w' => e = .returned (.int .i64 (plc (hashL L) B.length i)) ∧ Below W.heap.size W w') :=
    hide (fun W C i h1 h2 h3 => by have := place_any L i W h1 hl hB h3; rw [h2] at this; exact this)
  have HPB : Hid (∀ i, 0 ≤ plc (hashL L) B.length i ∧ plc (hashL L) B.length i < B.length * 8) := hide (fun i => plc_bd _ _ i (by omega))
  clear hF hB
  generalize hashL L = h at *
  generalize strOfNums L = S at *
  go_enter Try.func16, Try.ntmps16
  go_wp2_with fail
  go_loopw [4] (fun i wr => ∃ j : Nat, j ≤ k ∧ i = .int .i64 j ∧ RFlt wr p g k (addL B (placesL h B.length j)) ∧ w.grownBy wr (some g)) (fun i _ => k - (intOf i).toNat)
  case atStart => exact ⟨0, by omega, rfl, HF.out, World.grownBy.refl _ _⟩
  case round =>
    obtain ⟨j, hj, rfl, hf, hg⟩ := hrel
    obtain ⟨f0, f1⟩ := hf.cells
    have HF1 := hide hf
    have HG := hide hg
    have HLN : Hid ((addL B (placesL h B.length j)).length = B.length) := hide (addL_len _ _)
    rw [HLN.out] at f1
    clear hf hg
    by_cases hlt : j < k
    · have hji : (j : Int) < (k : Int) := by omega
      have hq := HPB.out j
      have hst : addL B (placesL h B.length (j + 1)) = setP (addL B (placesL h B.length j)) (plc h B.length j) := by rw [placesL_succ, addL_snoc]
      have HST0 := hide hst
      clear hst
      go_wp2_with fail
      refine (Calls.mono (HQ.out wr _ j HF1.out HLN.out (by omega)) ?_); rintro e w2 ⟨rfl, hg2⟩
      generalize plc h B.length j = q at *
      generalize hC : addL B (placesL h B.length j) = C at *
      obtain ⟨m, r, hm, hr, hmn, hr8, hd, hd2⟩ := idx_facts hq hln.2
      have HF2 := hide (HF1.out.below hg2)
      have HG2 := hide (grownBy_trans HG.out (grownBy_below (row := some g) hg2))
      have HST : Hid (setP C q = C.set m (orB (C[m]?.getD 0) r)) := hide (by unfold setP; rw [hm, hr]; simp)
      obtain ⟨f0, f1⟩ := HF2.out.cells
      rw [HLN.out] at f1
      have f2 : w2.cell? ⟨g, m, none⟩ = some (.int .u8 (C.getD m 0)) := by
        rw [cell_of_row w2 g m _ _ _ HF2.out.bl]
        have : m < C.length := by rw [HLN.out]; exact hmn
        simp [this]
      have hmn2 : (m : Int) < (B.length : Int) := by omega
      clear hm hr hq hg2 HF1 HG
      go_wp2_with fail
      go_still_tail 19, (by kernel_rfl)
      obtain ⟨W, hW⟩ : ∃ W, w2.drew = W := ⟨_, rfl⟩
      have hWb : Below w2.heap.size w2 W := by rw [← hW]; exact (Below.refl _ _).drew
      have f2 := (hWb.cell (p := ⟨g, m, none⟩) (HF2.out.lt).2).trans f2
      have hfz := row_free ((hWb.block g (HF2.out.lt).2).trans HF2.out.bl)
      have HF3 := hide (HF2.out.below hWb)
      have HGB := hide (grownBy_trans HG2.out (grownBy_below (row := some g) hWb))
      clear f0 f1
      refine (?_ : wpList _ _ _ _ _ w2.drew)
      rw [hW]
      clear hW hWb
      go_wp2_with fail
      have hxb := orB_isB (getD_isB HF3.out.byt m) hr8
      have hfn := HF3.out.put m hxb
      have hst2 : C.set m (orB (C[m]?.getD 0) r) = addL B (placesL h B.length (j + 1)) := by rw [← HST.out, HST0.out]
      rw [hst2] at hfn
      exact ⟨⟨j + 1, by omega, by go_num, hfn, grownBy_trans HGB.out (grownBy_setCell _ _ _ _)⟩, by simp [intOf]; omega⟩
    · obtain rfl : j = k := by omega
      go_wp2_with fail
      go_end0
      exact ⟨rfl, HF1.out, HG.out⟩

theorem hasL_take {B : List Int} {h : Int} {n j : Nat} (hh : ∀ i < j, clrP B (plc h n (i : Nat)) = false) : hasL B (placesL h n j) = true := by
  rw [hasL_iff]
  intro q hq
  obtain ⟨i, hi, rfl⟩ := List.mem_map.1 hq
  exact hh i (List.mem_range.1 hi)
theorem hasL_miss {B : List Int} {h : Int} {n k j : Nat} (hj : j < k) (hh : clrP B (plc h n (j : Nat)) = true) : hasL B (placesL h n k) = false := by
  unfold hasL
  rw [Bool.not_eq_false', List.any_eq_true]
  exact ⟨_, List.mem_map.2 ⟨j, List.mem_range.2 hj, rfl⟩, hh⟩
set_option maxHeartbeats 1000000 in
theorem rhas_any {p g k : Nat} {B : List Int} (L : List Int) (w : World) (hF : RFlt w p g k B) (hl : L.length ≤ 9223372036854775807) (hB : ∀ b ∈ L, isB b) :
    Calls Try.prog 18 #[.pointer (some ⟨p, 0, none⟩), .string (strOfNums L)] w fun e w' => e = .returned (.bool (hasL B (placesL (hashL L) B.length k))) ∧ Below w.heap.size w w' := by
  have HF := hide hF
  have hk1 := hF.k1
  have hln := hF.len
  have HQ : Hid (∀ W i, RFlt W p g k B → 0 ≤ i ∧ i < 4294967296 → Calls Try.prog 27 #[.pointer (some ⟨p, 0, none⟩), .string (strOfNums L), .int .i64 i] W fun e w' => e = .returned (.int .i64 (plc (hashL L) B.length i)) ∧ Below W.heap.size W w') :=
    hide (fun W i h1 h3 => place_any L i W h1 hl hB h3)
  have HPB : Hid (∀ i, 0 ≤ plc (hashL L) B.length i ∧ plc (hashL L) B.length i < B.length * 8) := hide (fun i => plc_bd _ _ i (by omega))
  clear hF hB
  generalize hashL L = h at *
  generalize strOfNums L = S at *
  obtain ⟨R, hR⟩ : ∃ R, hasL B (placesL h B.length k) = R := ⟨_, rfl⟩
  rw [hR]
  have HR := hide hR
  clear hR
  go_enter Try.func18, Try.ntmps18
  go_wp2_with fail
  go_loopw [5] (fun i wr => ∃ j : Nat, j ≤ k ∧ i = .int .i64 j ∧ (∀ i < j, clrP B (plc h B.length (i : Nat)) = false) ∧ Below w.heap.size w wr) (fun i _ => k - (intOf i).toNat)
  case atStart => exact ⟨0, by omega, rfl, by intro i hi; omega, Below.refl _ _⟩
  case round =>
    obtain ⟨j, hj, rfl, hh, hb⟩ := hrel
    have HB := hide hb
    have HH := hide hh
    have HF1 := hide (HF.out.below hb)
    obtain ⟨f0, f1⟩ := HF1.out.cells
    clear hb hh
    by_cases hlt : j < k
    · have hji : (j : Int) < (k : Int) := by omega
      have hq := HPB.out j
      go_wp2_with fail
      refine (Calls.mono (HQ.out wr j HF1.out (by omega)) ?_); rintro e w2 ⟨rfl, hg2⟩
      have HM := hide (fun hc => hasL_miss (B := B) (h := h) (n := B.length) hlt hc)
      have HS : Hid (clrP B (plc h B.length j) = false → ∀ i < j + 1, clrP B (plc h B.length (i : Nat)) = false) := hide (fun hc i hi => by
        rcases Nat.lt_succ_iff_lt_or_eq.1 hi with h1 | rfl
        · exact HH.out i h1
        · exact hc)
      generalize hqq : plc h B.length j = q at *
      obtain ⟨m, r, hm, hr, hmn, hr8, hd, hd2⟩ := idx_facts hq hln.2
      have HF2 := hide (HF1.out.below hg2)
      have HB2 := hide (below_step HB.out hg2)
      have hc : clrP B q = clrB (B[m]?.getD 0) r := by unfold clrP; rw [hm, hr]; simp
      obtain ⟨f0, f1⟩ := HF2.out.cells
      have f2 : w2.cell? ⟨g, m, none⟩ = some (.int .u8 (B[m]?.getD 0)) := by
        rw [cell_of_row w2 g m _ _ _ HF2.out.bl]
        simp [hmn]
      have hx := getD_isB HF2.out.byt m
      unfold isB at hx
      generalize B[m]?.getD 0 = x at *
      have hmn2 : (m : Int) < (B.length : Int) := by omega
      clear hqq hm hr hq hg2 HF1 HB
      cases hcb : clrB x r
      · rw [hcb] at hc
        have HC := hide hc
        unfold clrB at hcb
        clear hc
        go_wp2_with fail
        go_roundw
        case rel => exact ⟨j + 1, by omega, by go_num, HS.out HC.out, HB2.out⟩
        case measure => simp [intOf]; omega
      · rw [hcb] at hc
        have HC := hide hc
        unfold clrB at hcb
        clear hc
        go_wp2_with fail
        go_ret
        exact ⟨by rw [← HR.out, HM.out HC.out]; rfl, HB2.out⟩
    · obtain rfl : j = k := by omega
      go_wp2_with fail
      go_ret
      exact ⟨by rw [← HR.out, hasL_take HH.out]; rfl, HB.out⟩
end Go.Proofs.Ytdhpjeenbejajaa
