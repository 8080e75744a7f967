/- The walk of clepsydralaw21.NetCounts: it returns true. Conditions: the arguments are readable. -/
import Derived.Test.YtihhepojhoaacaaNetO
import Derived.Test.YtihhepojhoaacaaDecMg
import Derived.Test.YtihhepojhoaacaaBits
namespace Go.Proofs.Ytihhepojhoaacaa.netCounts
set_option linter.unusedVariables false
set_option linter.unusedSimpArgs false
open Go.ChangeShapes Go.WideShapes Go.ChangeAt Go.RowKit

/-- What a net's numbers keep to: k calls were made, t messages were taken. -/
structure Cnt (w0 w : World) (b : Nat) (m k : Nat) (t : Nat) : Prop where
  ex : ∃ (rb : Option Nat) (C : List Mg) (l s : Nat), NetO w0 w b rb m C l s ∧ s = C.length + l + t ∧ C.length ≤ m ∧ s ≤ k
theorem cap_le (n : Int) : capN n ≤ 1000 ∧ 1 ≤ capN n := by unfold capN; omega
theorem cap_eq (n : Int) : ((capN n : Nat) : Int) = min (max n 1) 1000 := by unfold capN; omega
theorem sendC_len (m : Nat) (C : List Mg) (x : Mg) (h : C.length ≤ m) (hm : 1 ≤ m) : ∃ q : Nat, sendL m C = (q : Int) ∧ (sendC m C x).length + q = C.length + 1 ∧ (sendC m C x).length ≤ m := by
  unfold sendC sendL
  by_cases h1 : m < C.length + 1
  · rw [if_pos h1, if_pos h1]
    exact ⟨1, rfl, by simp, by simp; omega⟩
  · rw [if_neg h1, if_neg h1]
    exact ⟨0, rfl, by simp, by simp; omega⟩
section
variable {w0 w : World} {b m k t : Nat}
theorem Cnt.below {w' : World} (h : Cnt w0 w b m k t) (hb : Below w.heap.size w w') : Cnt w0 w' b m k t := by
  obtain ⟨rb, C, l, s, h1, h2⟩ := h.ex
  exact ⟨rb, C, l, s, h1.below hb, h2⟩
theorem Cnt.more (h : Cnt w0 w b m k t) : Cnt w0 w b m (k + 1) t := by
  obtain ⟨rb, C, l, s, h1, h2, h3, h4⟩ := h.ex
  exact ⟨rb, C, l, s, h1, h2, h3, by omega⟩
theorem Cnt.low (h : Cnt w0 w b m k t) : Below w0.heap.size w0 w := by
  obtain ⟨rb, C, l, s, h1, h2⟩ := h.ex
  exact h1.low
theorem send_c (h : Cnt w0 w b m k t) (hm : 1 ≤ m ∧ m ≤ 1000) (hk : k ≤ 1000) (x : Mg) (hA : x.A = none) (hL : x.L = []) (hc : x.c = 0) (hok : mokB x = true) :
    Calls Try.prog 8 #[.pointer (some ⟨b, 0, none⟩), x.val] w fun e w' => e = .returned (.bool true) ∧ Cnt w0 w' b m (k + 1) t := by
  obtain ⟨rb, C, l, s, h1, h2, h3, h4⟩ := h.ex
  refine Calls.mono (send_o h1 x (mg0_rd _ _ hA hL hc) (fun a e => by rw [hA] at e; cases e) hok (by omega) (by omega) (by omega)) ?_
  rintro e w' ⟨rb', rfl, hN, _⟩
  obtain ⟨q, hq, hq1, hq2⟩ := sendC_len m C x.bare h3 hm.1
  rw [hq] at hN
  exact ⟨rfl, rb', _, l + q, s + 1, by rw [Int.natCast_add, Int.natCast_add]; exact hN, by omega, hq2, by omega⟩
theorem take_c (h : Cnt w0 w b m k t) (i : Int) :
    Calls Try.prog 10 #[.pointer (some ⟨b, 0, none⟩), .int .i64 i] w fun e w' => ∃ (x : Mg) (ok : Bool), e = .returned (.tuple #[x.val, .bool ok]) ∧ Cnt w0 w' b m k (if ok then t + 1 else t) := by
  obtain ⟨rb, C, l, s, h1, h2, h3, h4⟩ := h.ex
  by_cases hi : 0 ≤ i ∧ i < (C.length : Int)
  · obtain ⟨j, rfl⟩ : ∃ j : Nat, i = (j : Int) := ⟨i.toNat, by omega⟩
    refine Calls.mono (take_o h1 j (by omega)) ?_
    rintro e w' ⟨x, rb', rfl, _, _, hN, _⟩
    refine ⟨x, true, rfl, rb', _, l, s, hN, ?_, ?_, h4⟩
    · rw [List.length_eraseIdx_of_lt (by omega)]; simp; omega
    · rw [List.length_eraseIdx_of_lt (by omega)]; omega
  · refine Calls.mono (take_miss h1.at_ i hi) ?_
    rintro e w' ⟨rfl, hb⟩
    exact ⟨zMg, false, rfl, h.below hb⟩
theorem drop_c (h : Cnt w0 w b m k t) (hm : m ≤ 1000) (hk : k ≤ 1000) (i : Int) :
    Calls Try.prog 14 #[.pointer (some ⟨b, 0, none⟩), .int .i64 i] w fun e w' => ∃ ok : Bool, e = .returned (.bool ok) ∧ Cnt w0 w' b m k t := by
  obtain ⟨rb, C, l, s, h1, h2, h3, h4⟩ := h.ex
  by_cases hi : 0 ≤ i ∧ i < (C.length : Int)
  · obtain ⟨j, rfl⟩ : ∃ j : Nat, i = (j : Int) := ⟨i.toNat, by omega⟩
    refine Calls.mono (drop_o h1 j (by omega) (by omega)) ?_
    rintro e w' ⟨rb', rfl, hN, _⟩
    refine ⟨true, rfl, rb', _, l + 1, s, by rw [Int.natCast_add]; exact hN, ?_, ?_, h4⟩
    · rw [List.length_eraseIdx_of_lt (by omega)]; omega
    · rw [List.length_eraseIdx_of_lt (by omega)]; omega
  · refine Calls.mono (drop_miss h1.at_ i hi) ?_
    rintro e w' ⟨rfl, hb⟩
    exact ⟨false, rfl, h.below hb⟩
theorem double_c (h : Cnt w0 w b m k t) (hm : 1 ≤ m ∧ m ≤ 1000) (hk : k ≤ 1000) (i : Int) :
    Calls Try.prog 15 #[.pointer (some ⟨b, 0, none⟩), .int .i64 i] w fun e w' => ∃ ok : Bool, e = .returned (.bool ok) ∧ Cnt w0 w' b m (k + 1) t := by
  obtain ⟨rb, C, l, s, h1, h2, h3, h4⟩ := h.ex
  by_cases hi : 0 ≤ i ∧ i < (C.length : Int)
  · obtain ⟨j, rfl⟩ : ∃ j : Nat, i = (j : Int) := ⟨i.toNat, by omega⟩
    refine Calls.mono (double_o h1 j (by omega) (by omega) (by omega) (by omega)) ?_
    rintro e w' ⟨rb', rfl, hN, _⟩
    obtain ⟨q, hq, hq1, hq2⟩ := sendC_len m C (C[j]'(by omega)) h3 hm.1
    rw [hq] at hN
    exact ⟨true, rfl, rb', _, l + q, s + 1, by rw [Int.natCast_add, Int.natCast_add]; exact hN, by omega, hq2, by omega⟩
  · refine Calls.mono (double_miss h1.at_ i hi) ?_
    rintro e w' ⟨rfl, rfl⟩
    exact ⟨false, rfl, h.more⟩
theorem turn_c (h : Cnt w0 w b m k t) (i j : Int) :
    Calls Try.prog 16 #[.pointer (some ⟨b, 0, none⟩), .int .i64 i, .int .i64 j] w fun e w' => ∃ ok : Bool, e = .returned (.bool ok) ∧ Cnt w0 w' b m k t := by
  obtain ⟨rb, C, l, s, h1, h2, h3, h4⟩ := h.ex
  by_cases hi : (0 ≤ i ∧ i < (C.length : Int)) ∧ 0 ≤ j ∧ j < (C.length : Int)
  · obtain ⟨i', rfl⟩ : ∃ j : Nat, i = (j : Int) := ⟨i.toNat, by omega⟩
    obtain ⟨j', rfl⟩ : ∃ i : Nat, j = (i : Int) := ⟨j.toNat, by omega⟩
    refine Calls.mono (turn_o h1 i' j' (by omega) (by omega)) ?_
    rintro e w' ⟨rfl, hN, _⟩
    exact ⟨true, rfl, rb, _, l, s, hN, by rw [List.length_set, List.length_set]; exact h2, by rw [List.length_set, List.length_set]; exact h3, h4⟩
  · refine Calls.mono (turn_miss h1.at_ i j hi) ?_
    rintro e w' ⟨rfl, rfl⟩
    exact ⟨false, rfl, h⟩
end
theorem op_row {w w' : World} {A : Option Addr} {L : List Op9} (h : RowAt Op9.cells 9 w A L) (hb : Below w.heap.size w w') {k : Nat} (hk : k < L.length) :
    ∃ g off, A = some ⟨g, off, none⟩ ∧ g < w.heap.size ∧ w'.cell? ⟨g, off + k * 9, none⟩ = some (.int .i64 (L[k]).kind) ∧ w'.cell? ⟨g, off + k * 9 + 1, none⟩ = some (.int .i64 (L[k]).i) ∧ w'.cell? ⟨g, off + k * 9 + 2, none⟩ = some (.int .i64 (L[k]).k) ∧
      w'.cell? ⟨g, off + k * 9 + 3, none⟩ = some (.int .i64 (L[k]).m.k) ∧ w'.cell? ⟨g, off + k * 9 + 4, none⟩ = some (.int .i64 (L[k]).m.f) ∧ w'.cell? ⟨g, off + k * 9 + 5, none⟩ = some (.int .i64 (L[k]).m.t) ∧
      w'.cell? ⟨g, off + k * 9 + 6, none⟩ = some (.int .u64 (L[k]).m.id) ∧ w'.cell? ⟨g, off + k * 9 + 7, none⟩ = some (.int .u64 (L[k]).m.n) ∧ w'.cell? ⟨g, off + k * 9 + 8, none⟩ = some (.slice (L[k]).m.A (L[k]).m.L.length (L[k]).m.c) := by
  obtain ⟨g, off, rfl, hlt, hc⟩ := h.at_ hk
  have hx : ∀ j u, (Op9.cells L[k])[j]? = some u → w'.cell? ⟨g, off + k * 9 + j, none⟩ = some u := fun j u hu => keep_cell hb (hc k hk j u hu) hlt
  exact ⟨g, off, rfl, hlt, by simpa using hx 0 _ rfl, hx 1 _ rfl, hx 2 _ rfl, hx 3 _ rfl, hx 4 _ rfl, hx 5 _ rfl, hx 6 _ rfl, hx 7 _ rfl, hx 8 _ rfl⟩
set_option maxRecDepth 100000 in
set_option maxHeartbeats 6400000 in
theorem walk {w : World} (a0 : Int) (w0 : (Lit.int .i64 a0).wf = true) (A1 : Option Addr) (c1 : Nat) (L1 : List Op9) (lc1 : L1.length ≤ c1) (cm1 : c1 ≤ maxLen) (r1 : RowAt Op9.cells 9 w A1 L1) (w1 : ∀ a ∈ L1, a.good w) :
    Calls Try.prog 5 #[.int .i64 a0, .slice A1 L1.length c1] w fun e w' => e = .returned (.bool true) ∧ Below w.heap.size w w' := by
  have HR := hide r1
  have hcap := cap_le a0
  have HCE := hide (cap_eq a0)
  clear r1 w1 w0 lc1
  unfold maxLen at cm1
  go_enter Try.func5, Try.ntmps5
  go_wp2_with fail
  refine (Calls.mono (nnew_o a0 _) ?_); rintro e wn ⟨b, rfl, hN⟩
  have HC : Hid (Cnt w wn b (capN a0) 0 0) := hide ⟨none, [], 0, 0, hN, by simp, by simp, by omega⟩
  obtain ⟨m, hm⟩ : ∃ m, capN a0 = m := ⟨_, rfl⟩
  rw [hm] at HC hcap HCE
  clear hN hm
  go_wp2_with fail
  go_loopw [6, 7] (fun tv i wr => ∃ (t k : Nat), tv = .int .i64 t ∧ i = .int .i64 k ∧ k ≤ L1.length ∧ k ≤ 100 ∧ t ≤ k ∧ Cnt w wr b m k t) (fun _ i _ => 101 - (intOf i).toNat)
  case atStart => exact ⟨0, 0, rfl, rfl, by omega, by omega, by omega, HC.out⟩
  case round =>
    clear HC
    obtain ⟨t, k, rfl, rfl, hk, hk100, htk, hC⟩ := hrel
    have HC := hide hC
    clear hC
    by_cases hgo : k < L1.length ∧ k < 100
    · obtain ⟨hk1, hk2⟩ := hgo
      have hk1I : (k : Int) < (L1.length : Int) := by omega
      have hk2I : (k : Int) < 100 := by omega
      have hk0 : (0 : Int) ≤ (k : Int) := by omega
      obtain ⟨go, oo, rfl, hgo, y0, y1, y2, y3, y4, y5, y6, y7, y8⟩ := op_row HR.out HC.out.low hk1
      generalize L1[k] = o at *
      obtain ⟨ok, oi, oj, ⟨mk, mf, mt, mi, mn, mA, mc, mL⟩⟩ := o
      simp only at y0 y1 y2 y3 y4 y5 y6 y7 y8
      generalize mL.length = ml at *
      have HCA := hide (HC.out.below (below_alloc (Below.refl wr.heap.size wr) (.cells #[.int .i64 ok, .int .i64 oi, .int .i64 oj, .int .i64 mk, .int .i64 mf, .int .i64 mt, .int .u64 mi, .int .u64 mn, .slice mA ml mc] 39)))
      have hk3 : ∃ q : Nat, bits .and .i64 (k : Int) 3 = (q : Int) ∧ q ≤ 3 := ⟨k % 4, by rw [and_mask_i64 (k : Int) 2 3 (by omega) (by decide)]; omega, by omega⟩
      obtain ⟨q, hq, hq3⟩ := hk3
      have hwu : IntKind.u64.wrap (k : Int) = (k : Int) := by rw [IntKind.wrap_u64]; omega
      have htw : IntKind.i64.wrap ((t : Int) + 1) = (t : Int) + 1 := by rw [IntKind.wrap_i64]; omega
      go_upto_block 2 with fail
      go_cut [6] (fun tv W => ∃ t' : Nat, tv = .int .i64 t' ∧ t' ≤ k + 1 ∧ Cnt w W b m (k + 1) t')
      case first =>
        by_cases e0 : ok = 0
        · subst e0
          have HS := hide (send_c HCA.out hcap.symm (by omega) ⟨2, q, 0, k, 0, none, 0, []⟩ rfl rfl rfl (by unfold mokB nodeB; simp; omega))
          go_wp2_with fail
          refine (Calls.mono HS.out ?_); rintro e w2 ⟨rfl, hC2⟩
          have HC2 := hide hC2
          clear hC2 HS
          go_wp2_with fail
          go_meet
          exact ⟨t, rfl, by omega, HC2.out⟩
        by_cases e1 : ok = 1
        · subst e1
          have HS := hide (take_c HCA.out oi)
          go_wp2_with fail
          refine (Calls.mono HS.out ?_); rintro e w2 ⟨x, okb, rfl, hC2⟩
          have HC2 := hide (hC2.below (below_alloc (Below.refl w2.heap.size w2) (.cells #[.int .i64 x.k, .int .i64 x.f, .int .i64 x.t, .int .u64 x.id, .int .u64 x.n, .slice x.A x.L.length x.c] 28)))
          clear hC2 HS
          cases okb with
          | true =>
            go_wp2_with fail
            go_meet
            exact ⟨t + 1, by go_num, by omega, HC2.out.more⟩
          | false =>
            go_wp2_with fail
            go_meet
            exact ⟨t, rfl, by omega, HC2.out.more⟩
        have b0 : (ok == 0) = false := beq_eq_false_iff_ne.2 e0
        have b1 : (ok == 1) = false := beq_eq_false_iff_ne.2 e1
        by_cases e2 : ok = 2
        · subst e2
          have HS := hide (drop_c HCA.out hcap.1 (by omega) oi)
          go_wp2_with fail
          refine (Calls.mono HS.out ?_); rintro e w2 ⟨okb, rfl, hC2⟩
          have HC2 := hide hC2
          clear hC2 HS
          go_wp2_with fail
          go_meet
          exact ⟨t, rfl, by omega, HC2.out.more⟩
        by_cases e3 : ok = 3
        · subst e3
          have HS := hide (double_c HCA.out hcap.symm (by omega) oi)
          go_wp2_with fail
          refine (Calls.mono HS.out ?_); rintro e w2 ⟨okb, rfl, hC2⟩
          have HC2 := hide hC2
          clear hC2 HS
          go_wp2_with fail
          go_meet
          exact ⟨t, rfl, by omega, HC2.out⟩
        have b2 : (ok == 2) = false := beq_eq_false_iff_ne.2 e2
        have b3 : (ok == 3) = false := beq_eq_false_iff_ne.2 e3
        have HS := hide (turn_c HCA.out oi oj)
        clear e0 e1 e2 e3
        go_wp2_with fail
        refine (Calls.mono HS.out ?_); rintro e w2 ⟨okb, rfl, hC2⟩
        have HC2 := hide hC2
        clear hC2 HS
        go_wp2_with fail
        go_meet
        exact ⟨t, rfl, by omega, HC2.out.more⟩
      case rest =>
        obtain ⟨t', rfl, ht', hC2⟩ := hcut
        obtain ⟨rb, C, l, s, hN, hs, hCm, hsk⟩ := hC2.ex
        have HC2 := hide hC2
        have HSN := hide (nsent_any hN.at_)
        have HLN := hide (nlen_any hN.at_)
        have HLO := hide (nlost_any hN.at_)
        have hw1 : IntKind.i64.wrap ((C.length : Int) + (l : Int)) = (C.length : Int) + (l : Int) := by rw [IntKind.wrap_i64]; omega
        have hw2 : IntKind.i64.wrap ((C.length : Int) + (l : Int) + (t' : Int)) = (s : Int) := by rw [IntKind.wrap_i64]; omega
        obtain ⟨n, hn⟩ : ∃ n, C.length = n := ⟨_, rfl⟩
        rw [hn] at HLN hw1 hw2 hCm
        have hnm : (n : Int) ≤ min (max a0 1) 1000 := by have := HCE.out; omega
        clear hN hs hn hC2 HC HCA hcap HR
        go_wp2_with fail
        refine (Calls.mono HSN.out ?_); rintro e w3 ⟨rfl, rfl⟩
        go_wp2_with fail
        refine (Calls.mono HLN.out ?_); rintro e w4 ⟨rfl, rfl⟩
        go_wp2_with fail
        refine (Calls.mono HLO.out ?_); rintro e w5 ⟨rfl, rfl⟩
        go_wp2_with fail
        refine (Calls.mono HLN.out ?_); rintro e w6 ⟨rfl, rfl⟩
        by_cases a1 : a0 < 1
        · have f1 : a0 ≤ 1 := by omega
          have f2 : ¬ 1 ≤ a0 := by omega
          have f3 : ¬ 1 < a0 := by omega
          have f4 : ¬ (1 : Int) < (n : Int) := by omega
          have f5 : (n : Int) ≤ 1 := by omega
          clear hnm
          go_wp2_with fail
          go_roundw
          case rel => exact ⟨t', k + 1, by go_num, by go_num, by omega, by omega, ht', HC2.out⟩
          case measure => (simp [intOf] <;> omega)
        by_cases a2 : a0 = 1
        · subst a2
          have f4 : ¬ (1 : Int) < (n : Int) := by omega
          have f5 : (n : Int) ≤ 1 := by omega
          clear hnm
          go_wp2_with fail
          go_roundw
          case rel => exact ⟨t', k + 1, by go_num, by go_num, by omega, by omega, ht', HC2.out⟩
          case measure => (simp [intOf] <;> omega)
        have f1 : 1 < a0 := by omega
        have f2 : 1 ≤ a0 := by omega
        have f3 : ¬ a0 ≤ 1 := by omega
        by_cases a3 : a0 < 1000
        · have g1 : a0 ≤ 1000 := by omega
          have g2 : ¬ 1000 < a0 := by omega
          have g3 : ¬ 1000 ≤ a0 := by omega
          have f4 : ¬ a0 < (n : Int) := by omega
          have f5 : (n : Int) ≤ a0 := by omega
          clear hnm
          go_wp2_with fail
          go_roundw
          case rel => exact ⟨t', k + 1, by go_num, by go_num, by omega, by omega, ht', HC2.out⟩
          case measure => (simp [intOf] <;> omega)
        by_cases a4 : a0 = 1000
        · subst a4
          have f4 : ¬ (1000 : Int) < (n : Int) := by omega
          have f5 : (n : Int) ≤ 1000 := by omega
          clear hnm
          go_wp2_with fail
          go_roundw
          case rel => exact ⟨t', k + 1, by go_num, by go_num, by omega, by omega, ht', HC2.out⟩
          case measure => (simp [intOf] <;> omega)
        · have g1 : 1000 < a0 := by omega
          have g2 : 1000 ≤ a0 := by omega
          have g3 : ¬ a0 ≤ 1000 := by omega
          have f4 : ¬ (1000 : Int) < (n : Int) := by omega
          have f5 : (n : Int) ≤ 1000 := by omega
          clear hnm
          go_wp2_with fail
          go_roundw
          case rel => exact ⟨t', k + 1, by go_num, by go_num, by omega, by omega, ht', HC2.out⟩
          case measure => (simp [intOf] <;> omega)
    · have hgD : ¬ k < L1.length ∨ (k < L1.length ∧ ¬ k < 100) := by omega
      rcases hgD with h | ⟨h1, h2⟩
      · have hI : ¬ (k : Int) < (L1.length : Int) := by omega
        have hD : decide ((k : Int) < (L1.length : Int)) = false := decide_eq_false hI
        go_wp2_with fail
        refine (Calls.mono (awake21_any _) ?_); rintro e w10 ⟨rfl, hb10⟩
        have HB10 := hide (below_step HC.out.low hb10)
        clear hb10
        go_wp2_with fail
        go_ret
        exact ⟨rfl, HB10.out⟩
      · have hI : (k : Int) < (L1.length : Int) := by omega
        have hI2 : ¬ (k : Int) < 100 := by omega
        have hD : decide ((k : Int) < (L1.length : Int)) = true := decide_eq_true hI
        have hD2 : decide ((k : Int) < 100) = false := decide_eq_false hI2
        go_wp2_with fail
        refine (Calls.mono (awake21_any _) ?_); rintro e w10 ⟨rfl, hb10⟩
        have HB10 := hide (below_step HC.out.low hb10)
        clear hb10
        go_wp2_with fail
        go_ret
        exact ⟨rfl, HB10.out⟩
end Go.Proofs.Ytihhepojhoaacaa.netCounts
