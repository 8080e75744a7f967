/- The walk of clepsydralaw8.SkipRows: it returns true. No condition. -/
import Derived.Test.YtkhagbifbcdpnaaSkA
import Derived.Test.YtkhagbifbcdpnaaBits
namespace Go.Proofs.Ytkhagbifbcdpnaa.skipRows
set_option linter.unusedVariables false
set_option linter.unusedSimpArgs false
open Go.ChangeShapes Go.WideShapes Go.ChangeAt Go.RowKit

def rowI (t : Int) : It := ⟨5, 2, t, 1, 0⟩
def rows (k : Nat) : List It := (List.range k).map fun i : Nat => rowI (10 * (i : Int))
theorem rows_len (k : Nat) : (rows k).length = k := by simp [rows]
theorem rows_get {k i : Nat} (h : i < (rows k).length) : (rows k)[i] = rowI (10 * (i : Int)) := by
  have hk : i < k := by rw [rows_len] at h; exact h
  apply Option.some.inj
  rw [← List.getElem?_eq_getElem]
  unfold rows
  rw [List.getElem?_map, List.getElem?_range hk]
  rfl
theorem rows_succ (k : Nat) : rows (k + 1) = rows k ++ [rowI (10 * (k : Int))] := by simp [rows, List.range_succ]
theorem lt_row (a b : Int) : ltB (rowI a) (rowI b) = decide (a < b) := by simp [ltB, rowI, It.lt]
theorem low_rows {n : Nat} {t : Int} {m : Nat} (h0 : 0 ≤ t) (hm : (m : Int) = (t + 9) / 10) : lowI (rowI t) (rows n) = min n m := by
  refine low_is (by rw [rows_len]; omega) (fun j hj hlt => ?_) (fun hl => ?_)
  · rw [rows_get, lt_row]
    exact decide_eq_true (by omega)
  · rw [rows_get, lt_row]
    rw [rows_len] at hl
    exact decide_eq_false (by omega)
theorem row_ok {t h : Int} (h0 : 0 ≤ t) (h1 : t ≤ 500) (h2 : 1 ≤ h) (h3 : h ≤ 6) : okP (rowI t) h = true :=
  okP_iff.2 ⟨decide_eq_true ⟨⟨by show (0 : Int) ≤ 5; decide, by show (5 : Int) ≤ 255; decide⟩, ⟨by show (1 : Int) ≤ 1; decide, by show (1 : Int) ≤ _; decide⟩, .inr ⟨rfl, by show t ≤ _; omega⟩⟩, h2, h3⟩
theorem row_put {k : Nat} {h : Int} (hk : k < 50) (h2 : 1 ≤ h) (h3 : h ≤ 6) : skL (rowI (10 * (k : Int))) h (rows k) = rows (k + 1) ∧ skR (rowI (10 * (k : Int))) h (rows k) = true ∧ skE (rowI (10 * (k : Int))) h = 0 ∧ skH (rowI (10 * (k : Int))) h (rows k) (List.replicate k h.toNat) = List.replicate (k + 1) h.toNat := by
  have hok := row_ok (t := 10 * (k : Int)) (by omega) (by omega) h2 h3
  have hlow : lowI (rowI (10 * (k : Int))) (rows k) = k := by rw [low_rows (m := k) (by omega) (by omega)]; omega
  have hs : sameAt (rowI (10 * (k : Int))) (rows k) = false := sameAt_out (by rw [hlow, rows_len]; exact Nat.le_refl _)
  refine ⟨?_, ?_, if_pos hok, ?_⟩
  · unfold skL skP
    rw [if_pos hok, if_neg (by simp [hs]), hlow, List.take_of_length_le (by rw [rows_len]; omega), List.drop_of_length_le (by rw [rows_len]; omega), rows_succ]
  · unfold skR
    rw [hok, hs]
    rfl
  · unfold skH
    rw [if_pos hok, if_neg (by simp [hs]), hlow, List.take_of_length_le (by simp), List.drop_of_length_le (by simp), List.replicate_succ']
theorem lv_len {F : List Nd} {n h j : Nat} (hF : htsF F = List.replicate n h) : (lvL F j).length = if j < h then n else 0 := by
  have e : (lvL F j).length = ((htsF F).filter fun m => decide (j < m)).length := by
    unfold lvL htsF
    rw [List.length_map, List.filter_map, List.length_map]
    rfl
  rw [e, hF, List.filter_replicate]
  by_cases hj : j < h
  · rw [if_pos (by simpa using hj), if_pos hj, List.length_replicate]
  · rw [if_neg (by simpa using hj), if_neg hj]
    rfl
theorem and_k (a : Int) (k : Nat) (m : Int) (hm : m = 2 ^ k - 1) (hk : k < 63) (h : -9223372036854775808 ≤ a ∧ a ≤ 9223372036854775807) : ∃ t : Nat, bits .and .i64 a m = (t : Int) := by
  refine ⟨(a % 2 ^ k).toNat, ?_⟩
  rw [and_mask_i64 a k m hk hm]
  have := Int.emod_nonneg a (b := 2 ^ k) (by have : (0 : Int) < 2 ^ k := Int.pow_pos (by omega); omega)
  omega
set_option maxHeartbeats 3200000 in
set_option maxRecDepth 100000 in
theorem walk {w : World} (a0 : Int) (w0 : (Lit.int .i64 a0).wf = true) (a1 : Int) (w1 : (Lit.int .i64 a1).wf = true) (a2 : Int) (w2 : (Lit.int .u64 a2).wf = true) :
    Calls Try.prog 4 #[.int .i64 a0, .int .i64 a1, .int .u64 a2] w fun e w' => e = .returned (.bool true) ∧ Below w.heap.size w w' := by
  have b0 := bounds_i64 w0
  have b1 := bounds_i64 w1
  have b2 := bounds_u64 w2
  obtain ⟨p0, hp0⟩ := and_k a0 8 255 (by decide) (by omega) b0
  obtain ⟨p1, hp1⟩ := and_k a1 8 255 (by decide) (by omega) b1
  have hp2 := and_mask a2 9 511 (by omega) (by decide) b2.1 (by omega)
  obtain ⟨n, hn, hn1, hn2⟩ : ∃ n : Nat, (p0 : Int) % 50 + 1 = (n : Int) ∧ 1 ≤ n ∧ n ≤ 50 := ⟨p0 % 50 + 1, by omega, by omega, by omega⟩
  obtain ⟨h, hh, hh1, hh2⟩ : ∃ h : Nat, (p1 : Int) % 6 + 1 = (h : Int) ∧ 1 ≤ h ∧ h ≤ 6 := ⟨p1 % 6 + 1, by omega, by omega, by omega⟩
  generalize hx2 : a2 % 2 ^ 9 = at_ at hp2
  have hat : 0 ≤ at_ ∧ at_ ≤ 511 := by omega
  clear hx2 w0 w1 w2 b0 b1
  go_enter Try.func4, Try.ntmps4
  go_wp2_with fail
  refine (Calls.mono (new_any _) ?_); rintro e w1 ⟨p, H, rfl, hS, ho, hg1⟩
  have HS := hide hS
  have HO := hide ho
  have HB1 := hide hg1
  clear hS ho hg1
  go_wp2_with fail
  have hS := HS.out
  have hO := HO.out
  have hB := HB1.out
  go_loopw [8] (fun i wr => ∃ (k : Nat) (F : List Nd), i = .int .i64 k ∧ k ≤ n ∧ SkAt wr p F ∧ SkOk F ∧ itsF F = rows k ∧ htsF F = List.replicate k h ∧ (∀ b, SBlk p F b → w.heap.size ≤ b) ∧ Below w.heap.size w wr) (fun i _ => n - (intOf i).toNat)
  case atStart => exact ⟨0, [H], rfl, by omega, hS, new_ok hS, rfl, rfl, hO, hB⟩
  case round =>
    clear HS HO HB1 hS hO hB
    obtain ⟨k, F, rfl, hk, hS, hK, hI, hH, hO, hB⟩ := hrel
    have HS := hide hS
    have HK := hide hK
    have HI := hide hI
    have HH := hide hH
    have HO := hide hO
    have HB := hide hB
    have hFl : F.length = k + 1 := by
      have h1 := its_len F
      have h2 := hS.pos.1
      rw [hI, rows_len] at h1
      omega
    clear hS hK hI hH hO hB
    by_cases hlt : k < n
    · have hkI : (k : Int) < (n : Int) := by omega
      obtain ⟨t, ht⟩ : ∃ t : Int, 10 * (k : Int) = t := ⟨_, rfl⟩
      have htb : 0 ≤ t ∧ t ≤ 490 := by omega
      obtain ⟨r1, r2, r3, r4⟩ := row_put (k := k) (h := (h : Int)) (by omega) (by omega) (by omega)
      rw [ht] at r1 r2 r3 r4
      have R1 := hide r1
      have R2 := hide r2
      have R3 := hide r3
      have R4 := hide r4
      clear r1 r2 r3 r4
      go_wp2_with fail
      refine (Calls.mono (put_any p F (rowI t) (h : Int) _ HS.out HK.out (by omega)) ?_); rintro e v1 ⟨F', rfl, hP⟩
      rw [HI.out, R2.out, R3.out]
      have h1 : itsF F' = rows (k + 1) := by rw [hP.its, HI.out, R1.out]
      have h2 : htsF F' = List.replicate (k + 1) h := by rw [hP.hts, HI.out, HH.out]; exact R4.out
      have H1 := hide h1
      have H2 := hide h2
      have HO2 := hide (hP.base HO.out HB.out.size)
      have HB2 : Hid (Below w.heap.size w v1) := hide (hP.below HB.out HO.out (Nat.le_refl _))
      have HS2 := hide hP.at_
      have HK2 := hide hP.ok
      clear h1 h2 hP HS HK HI HH HO HB R1 R2 R3 R4
      go_wp2_with fail
      go_roundw
      case rel => exact ⟨k + 1, F', by go_num, by omega, HS2.out, HK2.out, H1.out, H2.out, HO2.out, HB2.out⟩
      case measure => simp [intOf]; omega
    · obtain rfl : k = n := by omega
      go_wp2_with fail
      obtain ⟨wa, rfl⟩ : ∃ wa, wa = wr := ⟨_, rfl⟩
      have hB0 := Below.refl wa.heap.size wa
      go_loopw [11, 12] (fun i _ wk => ∃ j : Nat, i = .int .i64 ((j : Int) + 1) ∧ j ≤ 6 ∧ Below wa.heap.size wa wk) (fun i _ _ => 7 - (intOf i).toNat)
      case atStart => exact ⟨0, rfl, by omega, hB0⟩
      case round =>
        clear hB0
        obtain ⟨j, rfl, hj, hb⟩ := hrel
        have HBW := hide hb
        clear hb
        obtain ⟨jv, hjv⟩ : ∃ jv : Int, (j : Int) + 1 = jv := ⟨_, rfl⟩
        have HL := hide (fun (hj6 : j < 6) => level_any p F j _ (HS.out.below HBW.out) hj6 (by omega))
        rw [hjv] at HL
        rw [hjv]
        by_cases hj6 : j < 6
        · have hjI : jv ≤ 6 := by omega
          have hlen := lv_len (j := j) HH.out
          by_cases hjh : j < h
          · rw [if_pos hjh] at hlen
            have hjhI : jv ≤ (h : Int) := by omega
            go_wp2_with fail
            refine (Calls.mono (HL.out hj6) ?_); rintro e v1 ⟨x, rfl, ho, hg1⟩
            obtain ⟨Ax, cx, rfl, hrx, hcx, hcm⟩ := ho.sl
            rw [hlen]
            have HB2 := hide (below_step HBW.out hg1)
            clear ho hrx hg1 hcm
            go_wp2_with fail
            go_roundw
            case rel => exact ⟨j + 1, by rw [← hjv]; go_num, by omega, HB2.out⟩
            case measure => simp [intOf]; omega
          · rw [if_neg hjh] at hlen
            have hjhI : ¬ jv ≤ (h : Int) := by omega
            go_wp2_with fail
            refine (Calls.mono (HL.out hj6) ?_); rintro e v1 ⟨x, rfl, ho, hg1⟩
            obtain ⟨Ax, cx, rfl, hrx, hcx, hcm⟩ := ho.sl
            rw [hlen]
            have HB2 := hide (below_step HBW.out hg1)
            clear ho hrx hg1 hcm
            go_wp2_with fail
            go_roundw
            case rel => exact ⟨j + 1, by rw [← hjv]; go_num, by omega, HB2.out⟩
            case measure => simp [intOf]; omega
        · have hjI : ¬ jv ≤ 6 := by omega
          have hso : at_ / 1 = at_ := by omega
          obtain ⟨m, hm⟩ : ∃ m : Nat, (m : Int) = (at_ + 9) / 10 := ⟨((at_ + 9) / 10).toNat, by omega⟩
          have hlow := low_rows (n := k) (t := at_) (m := m) hat.1 hm
          have HFR := hide (fun W (hW : Below wa.heap.size wa W) => from_any p F (rowI at_) W (HS.out.below hW) HK.out)
          rw [HI.out, hlow, rows_len] at HFR
          by_cases hmk : m < k
          · have hf : fromL (rows k) (rowI at_) = rowI (10 * (m : Int)) := by
              unfold fromL
              rw [hlow, show min k m = m by omega, List.getElem?_eq_getElem (by rw [rows_len]; exact hmk), rows_get]
              rfl
            rw [hf, decide_eq_true (show min k m < k by omega)] at HFR
            obtain ⟨mt, hmt⟩ : ∃ mt : Int, 10 * (m : Int) = mt := ⟨_, rfl⟩
            rw [hmt] at HFR
            have hm10 : (at_ + 9) / 10 * 10 = mt := by omega
            have hlt2 : ¬ 10 * (k : Int) ≤ mt := by omega
            have hlt3 : mt < 10 * (k : Int) := by omega
            have hmb : 0 ≤ mt ∧ mt ≤ 500 := by omega
            clear hf hlow hso HL hjv
            go_wp2_with fail
            refine (Calls.mono (HFR.out _ HBW.out) ?_); rintro e v1 ⟨rfl, hg1⟩
            have HB2 := hide (below_step HBW.out hg1)
            clear hg1
            have hbx := BxAt.box (x := rowI mt) (heap_alloc_new v1 (.cells (rowI mt).cells.toArray 30))
            have hba := below_alloc (Below.refl v1.heap.size v1) (.cells (rowI mt).cells.toArray 30)
            have HBA := hide (below_step HB2.out hba)
            clear hba
            go_wp2_with fail
            refine (Calls.mono (awake8_any _) ?_); rintro e v2 ⟨rfl, hg2⟩
            go_wp2_with fail
            go_ret
            exact ⟨rfl, below_step HB.out (below_step HBA.out hg2)⟩
          · rw [decide_eq_false (show ¬ min k m < k by omega)] at HFR
            obtain ⟨mt, hmt⟩ : ∃ mt : Int, 10 * (m : Int) = mt := ⟨_, rfl⟩
            have hm10 : (at_ + 9) / 10 * 10 = mt := by omega
            have hlt2 : 10 * (k : Int) ≤ mt := by omega
            have hlt3 : ¬ mt < 10 * (k : Int) := by omega
            have hmb : 0 ≤ mt ∧ mt ≤ 520 := by omega
            clear hlow hso HL hjv
            obtain ⟨y, hy⟩ : ∃ y, fromL (rows k) (rowI at_) = y := ⟨_, rfl⟩
            rw [hy] at HFR
            clear hy
            go_wp2_with fail
            refine (Calls.mono (HFR.out _ HBW.out) ?_); rintro e v1 ⟨rfl, hg1⟩
            have HB2 := hide (below_step HBW.out hg1)
            clear hg1
            have hba := below_alloc (Below.refl v1.heap.size v1) (.cells y.cells.toArray 30)
            have HBA := hide (below_step HB2.out hba)
            clear hba
            go_wp2_with fail
            refine (Calls.mono (awake8_any _) ?_); rintro e v2 ⟨rfl, hg2⟩
            go_wp2_with fail
            go_ret
            exact ⟨rfl, below_step HB.out (below_step HBA.out hg2)⟩
end Go.Proofs.Ytkhagbifbcdpnaa.skipRows
