/- The walk of clepsydralaw21.NetOrders: it returns true. Conditions: the arguments are readable. -/
import Derived.Test.YtihhepojhoaacaaNetO
import Derived.Test.YtihhepojhoaacaaBits
namespace Go.Proofs.Ytihhepojhoaacaa.netOrders
set_option linter.unusedVariables false
set_option linter.unusedSimpArgs false
open Go.ChangeShapes Go.WideShapes Go.ChangeAt Go.RowKit

def msI (j : Nat) : Mg := ⟨4, 0, 0, j, 0, none, 0, []⟩
def rowM (lo n : Nat) : List Mg := (List.range' lo n).map msI
theorem rowM_len (lo n : Nat) : (rowM lo n).length = n := by simp [rowM]
theorem rowM_get (lo n k : Nat) (h : k < (rowM lo n).length) : (rowM lo n)[k] = msI (lo + k) := by simp [rowM]
theorem rowM_snoc (n : Nat) : rowM 0 n ++ [msI n] = rowM 0 (n + 1) := by
  unfold rowM
  rw [List.range'_concat]
  simp
theorem rowM_first (lo n : Nat) : (rowM lo (n + 1)).eraseIdx 0 = rowM (lo + 1) n := by
  unfold rowM
  rw [List.range'_succ]
  rfl
theorem rowM_last (lo n : Nat) : (rowM lo (n + 1)).eraseIdx n = rowM lo n := by
  have h : rowM lo (n + 1) = rowM lo n ++ [msI (lo + n)] := by
    unfold rowM
    rw [List.range'_concat]
    simp
  have h2 := List.eraseIdx_append_of_length_le (l := rowM lo n) (k := n) (by rw [rowM_len]; exact Nat.le_refl _) [msI (lo + n)]
  rw [h, h2, rowM_len, Nat.sub_self]
  simp
set_option maxRecDepth 100000 in
set_option maxHeartbeats 6400000 in
theorem walk {w : World} (a0 : Int) (w0 : (Lit.int .i64 a0).wf = true) (a1 : Int) (w1 : (Lit.int .u64 a1).wf = true) :
    Calls Try.prog 3 #[.int .i64 a0, .int .u64 a1] w fun e w' => e = .returned (.bool true) ∧ Below w.heap.size w w' := by
  have b0 := bounds_i64 w0
  have b1 := bounds_u64 w1
  obtain ⟨q, hq, hq2⟩ : ∃ q : Nat, bits .and .i64 a0 255 = (q : Int) ∧ q ≤ 255 := ⟨(a0 % 256).toNat, by rw [and_mask_i64 a0 8 255 (by omega) (by decide)]; omega, by omega⟩
  obtain ⟨n, hn, hn1, hn2⟩ : ∃ n : Nat, (q : Int) % 60 + 1 = (n : Int) ∧ 1 ≤ n ∧ n ≤ 60 := ⟨q % 60 + 1, by omega, by omega, by omega⟩
  have hwn : IntKind.i64.wrap ((q : Int) % 60 + 1) = (n : Int) := by rw [IntKind.wrap_i64]; omega
  clear w0 w1
  go_enter Try.func3, Try.ntmps3
  go_wp2_with fail
  refine (Calls.mono (nnew_o 100 _) ?_); rintro e wn ⟨b, rfl, hN⟩
  rw [show capN 100 = 100 from rfl] at hN
  have HN := hide hN
  clear hN
  go_wp2_with fail
  go_loopw [6] (fun i wr => ∃ (k : Nat) (rb : Option Nat), i = .int .i64 k ∧ k ≤ n ∧ NetO w wr b rb 100 (rowM 0 k) 0 k) (fun i _ => n - (intOf i).toNat)
  case atStart => exact ⟨0, _, rfl, by omega, HN.out⟩
  case round =>
    clear HN
    obtain ⟨k, rb, rfl, hk, hN⟩ := hrel
    have HN := hide hN
    clear hN
    by_cases hkn : k < n
    · have hkI : (k : Int) < (n : Int) := by omega
      have hwu : IntKind.u64.wrap (k : Int) = (k : Int) := by rw [IntKind.wrap_u64]; omega
      have HS := hide (send_o HN.out (msI k) (mg0_rd _ _ rfl rfl rfl) (fun a h => by cases h) (by unfold mokB msI nodeB; simp; omega) (by rw [rowM_len]; omega) (by omega) (by omega))
      have HR : Hid (sendC 100 (rowM 0 k) (msI k).bare = rowM 0 (k + 1) ∧ sendL 100 (rowM 0 k) = 0) := hide (by
        unfold sendC sendL
        rw [rowM_len, if_neg (by omega), if_neg (by omega)]
        exact ⟨rowM_snoc k, rfl⟩)
      rw [HR.out.1, HR.out.2] at HS
      unfold msI at HS
      go_wp2_with fail
      refine (Calls.mono HS.out ?_); rintro e w2 ⟨r2, rfl, hN, _⟩
      have HN2 := hide hN
      clear hN HS
      go_wp2_with fail
      go_roundw
      case rel => exact ⟨k + 1, r2, by go_num, by omega, HN2.out⟩
      case measure => (simp [intOf] <;> omega)
    · obtain rfl : k = n := by omega
      have hkI : ¬ (k : Int) < (k : Int) := by omega
      have hk1 : IntKind.i64.wrap ((k : Int) - 1) = (k : Int) - 1 := by rw [IntKind.wrap_i64]; omega
      go_wp2_with fail
      go_loopw [7, 8, 9] (fun lov hiv i wr => ∃ (j lo : Nat) (rb : Option Nat), i = .int .i64 j ∧ j ≤ k ∧ lo ≤ j ∧ lov = .int .i64 lo ∧ hiv = .int .i64 ((lo : Int) + ((k - j : Nat) : Int) - 1) ∧ NetO w wr b rb 100 (rowM lo (k - j)) 0 k) (fun _ _ i _ => k - (intOf i).toNat)
      case atStart => exact ⟨0, 0, _, rfl, by omega, by omega, rfl, by simp, HN.out⟩
      case round =>
        clear HN
        obtain ⟨j, lo, rb, rfl, hj, hlo, rfl, rfl, hN⟩ := hrel
        have HN := hide hN
        clear hN
        by_cases hjk : j < k
        · have hjI : (j : Int) < (k : Int) := by omega
          obtain ⟨p, hp⟩ : ∃ p, k - j = p + 1 := ⟨k - j - 1, by omega⟩
          rw [hp] at HN ⊢
          have hlen := rowM_len lo (p + 1)
          have HL := hide (nlen_any HN.out.at_)
          rw [hlen] at HL
          have hand : bits .and .i64 (j : Int) 63 = (j : Int) := by rw [and_mask_i64 (j : Int) 6 63 (by omega) (by decide)]; omega
          have hj0 : (0 : Int) ≤ (j : Int) := by omega
          have hj1 : ¬ (j : Int) < 0 := by omega
          go_upto_if 47 with fail
          have hp1 : ((p + 1 : Nat) : Int) = (p : Int) + 1 := by omega
          rw [hp1]
          obtain ⟨wh, rfl⟩ : ∃ wh, wh = wr := ⟨_, rfl⟩
          go_cut [7, 8, 10, 11] (fun lov hiv kv wv W => ∃ (i lo2 : Nat), W = wh ∧ kv = .int .i64 i ∧ i < p + 1 ∧ wv = .int .i64 ((lo : Int) + (i : Int)) ∧ lov = .int .i64 lo2 ∧ hiv = .int .i64 ((lo2 : Int) + (p : Int) - 1) ∧ (rowM lo (p + 1)).eraseIdx i = rowM lo2 p ∧ lo2 ≤ j + 1)
          case first =>
            cases hbit : (bits .and .u64 (a1 / 2 ^ j) 1 == 1) with
            | true =>
              have h1 : IntKind.i64.wrap ((p : Int) + 1 - 1) = (p : Int) := by rw [IntKind.wrap_i64]; omega
              have h2 : IntKind.i64.wrap ((lo : Int) + ((p : Int) + 1) - 1 - 1) = (lo : Int) + (p : Int) - 1 := by rw [IntKind.wrap_i64]; omega
              have hc : ((p + 1 : Nat) : Int) = (p : Int) + 1 := by omega
              rw [hc] at HL
              clear hc hp1
              go_wp2_with fail
              refine (Calls.mono HL.out ?_); rintro e w5 ⟨rfl, rfl⟩
              go_wp2_with fail
              go_meet
              exact ⟨p, lo, rfl, by go_num, by omega, by go_num, rfl, by go_num, rowM_last lo p, by omega⟩
            | false =>
              have h1 : IntKind.i64.wrap ((lo : Int) + 1) = (lo : Int) + 1 := by rw [IntKind.wrap_i64]; omega
              go_wp2_with fail
              go_meet
              exact ⟨0, lo + 1, rfl, by go_num, by omega, by go_num, by go_num, by go_num, rowM_first lo p, by omega⟩
          case rest =>
            obtain ⟨i, lo2, rfl, rfl, hi, rfl, rfl, rfl, hrow, hlo2⟩ := hcut
            have hiL : i < (rowM lo (p + 1)).length := by rw [hlen]; exact hi
            have hT := take_o HN.out i hiL
            rw [rowM_get lo (p + 1) i hiL, hrow] at hT
            have HT := hide hT
            clear hT hrow HL
            have hwu : IntKind.u64.wrap ((lo : Int) + (i : Int)) = (lo : Int) + (i : Int) := by rw [IntKind.wrap_u64]; omega
            go_wp2_with fail
            refine (Calls.mono HT.out ?_); rintro e w6 ⟨x, r6, rfl, hb, _, hN6, _⟩
            obtain ⟨A, c, rfl⟩ := bare_lit (show x.bare = ⟨4, 0, 0, ((lo + i : Nat) : Int), 0, none, 0, []⟩ from hb)
            have hcast : ((lo + i : Nat) : Int) = (lo : Int) + (i : Int) := by omega
            rw [hcast]
            have HN7 := hide (hN6.below (below_alloc (Below.refl w6.heap.size w6) (.cells #[.int .i64 4, .int .i64 0, .int .i64 0, .int .u64 ((lo : Int) + (i : Int)), .int .u64 0, .slice A 0 c] 28)))
            have hpk : k - (j + 1) = p := by omega
            have HPK := hide hpk
            clear hb hN6 HT hcast hpk HN
            go_wp2_with fail
            go_roundw
            case rel => exact ⟨j + 1, lo2, r6, by go_num, by omega, by omega, by go_num, by rw [HPK.out], by rw [HPK.out]; exact HN7.out⟩
            case measure => (simp [intOf] <;> omega)
        · obtain rfl : j = k := by omega
          have hjI : ¬ (j : Int) < (j : Int) := by omega
          rw [Nat.sub_self] at HN
          have HT := hide (take_miss HN.out.at_ 0 (by rw [rowM_len]; simp))
          go_wp2_with fail
          refine (Calls.mono HT.out ?_); rintro e w6 ⟨rfl, hb6⟩
          have hb7 := below_step hb6 (below_alloc (Below.refl w6.heap.size w6) (.cells #[.int .i64 0, .int .i64 0, .int .i64 0, .int .u64 0, .int .u64 0, .slice none 0 0] 28))
          have hN7 := HN.out.below hb7
          have HL := hide (nlen_any hN7.at_)
          rw [rowM_len] at HL
          have HLO := hide (nlost_any hN7.at_)
          have HB7 := hide hN7.low
          clear hb6 hb7 hN7 HT HN
          go_wp2_with fail
          refine (Calls.mono HL.out ?_); rintro e w8 ⟨rfl, rfl⟩
          go_wp2_with fail
          refine (Calls.mono HLO.out ?_); rintro e w9 ⟨rfl, rfl⟩
          go_wp2_with fail
          refine (Calls.mono (awake21_any _) ?_); rintro e w10 ⟨rfl, hb10⟩
          have HB10 := hide (below_step HB7.out hb10)
          clear hb10
          go_wp2_with fail
          go_ret
          exact ⟨rfl, HB10.out⟩
end Go.Proofs.Ytihhepojhoaacaa.netOrders
