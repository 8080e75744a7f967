/- The walk of clepsydralaw6.StateTurns: it returns true. No condition. -/
import Derived.Test.YtbhfokfdijnhhaaS6Sl
import Derived.Test.YtbhfokfdijnhhaaBits
namespace Go.Proofs.Ytbhfokfdijnhhaa.stateTurns
set_option linter.unusedVariables false
set_option linter.unusedSimpArgs false
open Go.ChangeShapes Go.WideShapes Go.ChangeAt Go.RowKit

/-- All items of M are of L. -/
def From (L M : List It) : Prop := ∀ x ∈ M, x ∈ L
theorem From.snoc {L M : List It} (h : From L M) {k : Nat} (hk : k < L.length) : From L (M ++ [L[k]]) := fun x hx => by
  rcases List.mem_append.1 hx with e | e
  · exact h x e
  · rw [List.mem_singleton] at e; subst e; exact List.getElem_mem _
theorem turns_eq {L M : List It} (h : From L M) (h2 : ∀ x ∈ L, x ∈ M) : ofL M = ofL L := ofL_congr fun x => ⟨fun hx => h x hx, fun hx => h2 x hx⟩
theorem has_snoc {L M : List It} {k : Nat} (h : ∀ j (_ : j < k) (hj : j < L.length), L[j] ∈ M) (hk : k < L.length) : ∀ j (_ : j < k + 1) (hj : j < L.length), L[j] ∈ M ++ [L[k]] := fun j hj hj' => by
  by_cases e : j = k
  · subst e; simp
  · exact List.mem_append_left _ (h j (by omega) hj')
theorem has_all {L M : List It} (h : ∀ j (_ : j < L.length) (hj : j < L.length), L[j] ∈ M) : ∀ x ∈ L, x ∈ M := fun x hx => by
  obtain ⟨j, hj, rfl⟩ := List.getElem_of_mem hx
  exact h j hj hj
theorem mod_nat (k t n : Nat) : ((k : Int) + (t : Int)) % (n : Int) = (((k + t) % n : Nat) : Int) := by norm_cast
theorem and_255 (a : Int) (h : -9223372036854775808 ≤ a ∧ a ≤ 9223372036854775807) : ∃ t : Nat, bits .and .i64 a 255 = (t : Int) ∧ t ≤ 255 := by
  refine ⟨(a % 256).toNat, ?_, by omega⟩
  rw [and_mask_i64 a 8 255 (by omega) (by decide)]
  omega

set_option maxHeartbeats 3200000 in
set_option maxRecDepth 100000 in
theorem walk {w : World} (A0 : Option Addr) (c0 : Nat) (L0 : List It) (lc0 : L0.length ≤ c0) (cm0 : c0 ≤ maxLen) (r0 : RowAt It.cells 5 w A0 L0) (w0 : ∀ a ∈ L0, a.wf)
    (a1 : Int) (w1 : (Lit.int .i64 a1).wf = true) :
    Calls Try.prog 4 #[.slice A0 L0.length c0, .int .i64 a1] w fun e w' => e = .returned (.bool true) ∧ Below w.heap.size w w' := by
  have b1 := bounds_i64 w1
  by_cases h0 : 40 < L0.length
  case pos =>
    have d0 : decide (40 < (L0.length : Int)) = true := decide_eq_true (by omega)
    go_enter Try.func4, Try.ntmps4
    go_wp2_with fail
    refine (Calls.mono (awake_any _) ?_); rintro e w1 ⟨rfl, hg1⟩
    go_wp2_with fail
    go_ret
    exact ⟨rfl, hg1⟩
  have d0 : decide (40 < (L0.length : Int)) = false := decide_eq_false (by omega)
  obtain ⟨t, ht, ht2⟩ := and_255 a1 b1
  have HL := hide r0
  have HSL := hide (Sl.mk_ r0 lc0 cm0)
  clear r0 w0 w1 b1
  go_enter Try.func4, Try.ntmps4
  go_wp2_with fail
  go_loopw [6, 7] (fun sv i wr => ∃ (k : Nat) (M : List It), i = .int .i64 k ∧ k ≤ L0.length ∧ M.length ≤ 2 * k ∧ From L0 M ∧ Ow w.heap.size wr sv M ∧ Below w.heap.size w wr) (fun _ i _ => L0.length - (intOf i).toNat)
  case atStart => exact ⟨0, [], rfl, by omega, by simp, fun x hx => by simp at hx, Ow.nil_ _ _, Below.refl _ _⟩
  case round =>
    obtain ⟨k, M, rfl, hk, hM, hfr, hown, hb⟩ := hrel
    have HO := hide hown
    have HB := hide hb
    have HF := hide hfr
    clear hown hb hfr
    by_cases hlt : k < L0.length
    · have hpos : (0 : Int) < (L0.length : Int) := by omega
      obtain ⟨q, hq, hq2⟩ : ∃ q : Nat, ((k : Int) + (t : Int)) % (L0.length : Int) = (q : Int) ∧ q < L0.length := ⟨(k + t) % L0.length, mod_nat k t L0.length, Nat.mod_lt _ (by omega)⟩
      obtain ⟨bl, off, hA, hbb, y0, y1, y2, y3, y4⟩ := ItemsAt.item HL.out HB.out hq2
      obtain ⟨bl2, off2, hA2, hbb2, z0, z1, z2, z3, z4⟩ := ItemsAt.item HL.out HB.out (k := L0.length - 1 - k) (by omega)
      rw [hA] at hA2
      injection hA2 with hA2
      injection hA2 with hA3 hA4
      subst hA3 hA4
      subst hA
      have hbl : bl < wr.heap.size := Nat.lt_of_lt_of_le hbb HB.out.size
      have hgo := OwnL.lt HO.out
      have HY := hide (HF.out.snoc hq2)
      have HZ := hide ((HF.out.snoc hq2).snoc (show L0.length - 1 - k < L0.length by omega))
      generalize L0[q] = y at *
      generalize L0[L0.length - 1 - k] = z at *
      have hnr : some bl ≠ u6.ownBlock := fun e => by have := (hgo _ e.symm).1; omega
      have hq3 : (q : Int) < (L0.length : Int) := by omega
      have e1 : (L0.length : Int) - 1 - (k : Int) = ((L0.length - 1 - k : Nat) : Int) := by omega
      have tk1 : True := trivial
      go_wp2_with (first
        | (at_builtin; have _t := tk1; refine wpList_append_item rfl (.tmp 19) (.tmp 29) rfl _ _ _ _ _ _ M y rfl rfl rfl HO.out HB.out (Nat.le_refl _) HB.out.size (by omega) ?_; intro v1 u1 ho1 hbu1 hgu1; clear tk1 _t; obtain ⟨hcz, hfz⟩ := gcell hgu1 hbl hnr; have HO1 := hide ho1; have HB1 := hide hbu1; clear ho1 hbu1)
        | (at_builtin; refine wpList_append_item rfl (.tmp 34) (.tmp 42) rfl _ _ _ _ _ _ (M ++ [y]) z rfl rfl rfl HO1.out HB1.out (Nat.le_refl _) HB1.out.size (by simp; omega) ?_; intro v2 u2 ho2 hbu2 hgu2))
      all_goals
        go_roundw
        case rel =>
          first
          | exact ⟨k + 1, M ++ [y] ++ [z], by go_num, by omega, by simp; omega, HZ.out, ho2, hbu2⟩
          | exact ⟨k + 1, M ++ [y], by go_num, by omega, by simp; omega, HY.out, HO1.out, HB1.out⟩
        case measure => simp [intOf]; omega
    · obtain rfl : k = L0.length := by omega
      go_wp2_with fail
      have hfm := HF.out
      have ho := HO.out
      have hb := HB.out
      go_loopw [6, 8] (fun sv i wr => ∃ (j : Nat) (N : List It), i = .int .i64 j ∧ j ≤ L0.length ∧ N.length ≤ 80 + j ∧ From L0 N ∧ (∀ i (_ : i < j) (hi : i < L0.length), L0[i] ∈ N) ∧ Ow w.heap.size wr sv N ∧ Below w.heap.size w wr) (fun _ i _ => L0.length - (intOf i).toNat)
      case atStart => exact ⟨0, M, rfl, by omega, by omega, hfm, fun i hi => absurd hi (by omega), ho, hb⟩
      case round =>
        clear HO HB HF ho hb hfm
        obtain ⟨k, N, rfl, hk2, hN, hfr, hhas, hown, hb⟩ := hrel
        have HO := hide hown
        have HB0 := hide hb
        have HF := hide hfr
        have HH := hide hhas
        clear hown hb hfr hhas
        by_cases hlt : k < L0.length
        · obtain ⟨bl, off, hA, hbb, y0, y1, y2, y3, y4⟩ := ItemsAt.item HL.out HB0.out hlt
          subst hA
          have HY := hide (HF.out.snoc hlt)
          have HY2 := hide (has_snoc HH.out hlt)
          generalize L0[k] = y at *
          go_wp2_with (at_builtin; refine wpList_append_item rfl (.tmp 49) (.tmp 54) rfl _ _ _ _ _ _ N y rfl rfl rfl HO.out HB0.out (Nat.le_refl _) HB0.out.size (by omega) ?_; intro v1 u1 ho1 hbu1 hgu1)
          go_roundw
          case rel => exact ⟨k + 1, N ++ [y], by go_num, by omega, by simp; omega, HY.out, HY2.out, ho1, hbu1⟩
          case measure => simp [intOf]; omega
        · obtain rfl : k = L0.length := by omega
          have HE : Hid (eqL (ofL N) (ofL L0) = true) := hide (eqL_iff.2 (turns_eq HF.out (has_all HH.out)))
          have S_m := hide HO.out.sl
          have S_l := hide (HSL.out.below HB0.out)
          have l1 := ofL_len N
          have l2 := ofL_len L0
          go_wp2_with fail
          refine (Calls.mono (pof_sl S_m.out (by omega)) ?_); rintro e w1 ⟨v1, rfl, ho1, hg1⟩
          have HB1 := hide (below_step HB0.out hg1)
          have S_m := hide (S_m.out.below hg1)
          have S_l := hide (S_l.out.below hg1)
          have S_p := hide (ho1.sl)
          clear ho1 hg1
          go_wp2_with fail
          refine (Calls.mono (pof_sl S_l.out (by omega)) ?_); rintro e w2 ⟨v2, rfl, ho2, hg2⟩
          have HB2 := hide (below_step HB1.out hg2)
          have S_m := hide (S_m.out.below hg2)
          have S_l := hide (S_l.out.below hg2)
          have S_p := hide (S_p.out.below hg2)
          have S_q := hide (ho2.sl)
          clear ho2 hg2
          go_wp2_with fail
          refine (Calls.mono (requal_sl S_p.out S_q.out (by omega) (by omega)) ?_); rintro e w3 ⟨rfl, hg3⟩
          rw [HE.out]
          have HB3 := hide (below_step HB2.out hg3)
          have S_m := hide (S_m.out.below hg3)
          have S_l := hide (S_l.out.below hg3)
          have S_p := hide (S_p.out.below hg3)
          have S_q := hide (S_q.out.below hg3)
          clear hg3
          go_wp2_with fail
          refine (Calls.mono (awake_any _) ?_); rintro e w4 ⟨rfl, hg4⟩
          have HB4 := hide (below_step HB3.out hg4)
          have S_m := hide (S_m.out.below hg4)
          have S_l := hide (S_l.out.below hg4)
          have S_p := hide (S_p.out.below hg4)
          have S_q := hide (S_q.out.below hg4)
          clear hg4
          go_wp2_with fail
          go_ret
          exact ⟨rfl, HB4.out⟩
end Go.Proofs.Ytbhfokfdijnhhaa.stateTurns
