/- skip.List's Len, from, Level, All: contracts. Conditions: the list as it reads. -/
import Derived.Test.YtoejhekmfgkklaaSkB
namespace Go.Proofs.Ytoejhekmfgkklaa
set_option linter.unusedVariables false
set_option linter.unusedSimpArgs false
open Go.ChangeShapes Go.WideShapes Go.ChangeAt Go.RowKit

set_option maxHeartbeats 400000 in
theorem len_any (p : Nat) (F : List Nd) (w : World) (hS : SkAt w p F) : Calls Try.prog 30 #[.pointer (some ⟨p, 0, none⟩)] w fun e w' => e = .returned (.int .i64 ((F.length : Int) - 1)) ∧ w' = w := by
  have hc := hS.cnt
  clear hS
  go_enter Try.func30, Try.ntmps30
  go_wp2_with fail
  go_ret
  exact ⟨rfl, rfl⟩
/-- The items of a level up to place i. -/
def lvTo (F : List Nd) (k i : Nat) : List It := (((F.take (i + 1)).drop 1).filter fun n => decide (k < n.h)).map (·.x)
theorem lv_step {F : List Nd} {k m : Nat} (h : m + 1 < F.length) : lvTo F k (m + 1) = lvTo F k m ++ if k < (F[m + 1]'h).h then [(F[m + 1]'h).x] else [] := by
  unfold lvTo
  rw [List.take_succ_eq_append_getElem h, List.drop_append_of_le_length (by simp; omega), List.filter_append, List.map_append]
  by_cases hk : k < (F[m + 1]'h).h
  · simp [hk]
  · simp [hk]
theorem lv_const {F : List Nd} {k i : Nat} : ∀ d, i + d < F.length → (∀ j (hj : j < F.length), i < j → j ≤ i + d → ¬ k < F[j].h) → lvTo F k (i + d) = lvTo F k i
  | 0, _, _ => rfl
  | d + 1, h, hn => by
    rw [show i + (d + 1) = i + d + 1 by omega, lv_step (by omega), if_neg (hn _ (by omega) (by omega) (by omega)), List.append_nil]
    exact lv_const d (by omega) (fun j hj h1 h2 => hn j hj h1 (by omega))
theorem lv_next {F : List Nd} {k i j : Nat} (hj : j < F.length) (hij : i < j) (hk : k < F[j].h) (hn : ∀ j' (h' : j' < F.length), i < j' → j' < j → ¬ k < F[j'].h) : lvTo F k j = lvTo F k i ++ [F[j].x] := by
  obtain ⟨d, rfl⟩ : ∃ d, j = i + d + 1 := ⟨j - i - 1, by omega⟩
  rw [lv_step hj, if_pos hk, lv_const d (by omega) (fun j' hj' h1 h2 => hn j' hj' h1 (by omega))]
/-- A level whole. -/
def lvL (F : List Nd) (k : Nat) : List It := ((F.drop 1).filter fun n => decide (k < n.h)).map (·.x)
theorem lv_end {F : List Nd} {k i : Nat} (hi : i < F.length) (hn : ∀ j (hj : j < F.length), i < j → ¬ k < F[j].h) : lvTo F k i = lvL F k := by
  obtain ⟨d, hd⟩ : ∃ d, i + d + 1 = F.length := ⟨F.length - i - 1, by omega⟩
  rw [← lv_const d (by omega) (fun j hj h1 _ => hn j hj h1)]
  unfold lvTo lvL
  rw [hd, List.take_length]
theorem lv_zero (F : List Nd) (k : Nat) : lvTo F k 0 = [] := by
  unfold lvTo
  cases F <;> simp
theorem lvTo_len (F : List Nd) (k i : Nat) : (lvTo F k i).length ≤ F.length := by
  unfold lvTo
  rw [List.length_map]
  refine Nat.le_trans (List.length_filter_le _ _) ?_
  simp
  omega
set_option maxHeartbeats 3200000 in
set_option maxRecDepth 100000 in
theorem level_any (p : Nat) (F : List Nd) (k : Nat) (w : World) (hS : SkAt w p F) (hk : k < 6) (hl : F.length ≤ 1099511627776) : Calls Try.prog 48 #[.pointer (some ⟨p, 0, none⟩), .int .i64 ((k : Int) + 1)] w (RetOw (lvL F k) w) := by
  obtain ⟨hF0, hF6, hFp⟩ := hS.pos
  have hlp := hS.lp
  have HS := hide hS
  have hk6 : (k : Int) < 6 := by omega
  have hld := lev_load hS hF0 (k := k) (by omega)
  obtain ⟨lb, lt, _, _, _, _, _, _, q5, _, _⟩ := hS.nds.at_ _ (List.getElem_mem hF0)
  have HLD := hide hld
  have HI0 : Hid (∃ h : 0 < F.length, k < (F[0]'h).h) := hide ⟨hF0, by omega⟩
  have hkh : (k : Int) < (((F[0]'hF0).h : Nat) : Int) := by omega
  have hsub : (k : Int) + 1 - 1 = (k : Int) := by omega
  clear hS hld hF6
  generalize (F[0]'hF0) = n0 at *
  go_enter Try.func48, Try.ntmps48
  go_wp2_with fail
  refine (Calls.mono HLD.out ?_); rintro e w1 ⟨rfl, rfl⟩
  clear lb lt q5 hkh
  go_wp2_with fail
  go_loopg [5, 6] F.length (fun g v nv wr => ∃ i, g = F.length - i ∧ (∃ hi : i < F.length, k < (F[i]'hi).h) ∧ nv = ptrO (nxtP k (F.drop (i + 1))) ∧ Ow w1.heap.size wr v (lvTo F k i) ∧ Below w1.heap.size w1 wr)
  case atStart => exact ⟨0, by omega, HI0.out, by simp, by rw [lv_zero]; exact Ow.nil_ _ _, Below.refl _ _⟩
  case round =>
    obtain ⟨i, rfl, ⟨hi, hki⟩, rfl, ho, hb⟩ := hrel
    have HO := hide ho
    have HB := hide hb
    have HSR := hide (HS.out.below hb)
    clear ho hb
    rcases nx_cases F k i with ⟨hnone, hall⟩ | ⟨j, hj, hij, hkj, hsome, hbet⟩
    · rw [hnone]
      have hpn : ptrO none = .pointer none := rfl
      rw [hpn]
      have HE := hide (lv_end hi hall)
      clear hnone hpn hall
      go_wp2_with fail
      go_ret
      exact ⟨_, rfl, by rw [← HE.out]; exact HO.out, HB.out⟩
    · rw [hsome]
      have hps : ptrO (some (F[j]'hj).b) = .pointer (some ⟨(F[j]'hj).b, 0, none⟩) := rfl
      rw [hps]
      obtain ⟨lbj, ltj, _, z0, z1, z2, z3, z4, z5, _, _⟩ := HSR.out.nds.at_ _ (List.getElem_mem hj)
      have HNX := hide (lv_next hj hij hkj hbet)
      have HLJ := hide (fun W (hW : Below w1.heap.size w1 W) => lev_load (HS.out.below hW) hj hkj)
      have HZJ : Hid (∀ W, Below w1.heap.size w1 W → NdAt W (F[j]'hj)) := hide (fun W hW => (HS.out.below hW).nds.at_ _ (List.getElem_mem hj))
      have hkjI : (k : Int) < (((F[j]'hj).h : Nat) : Int) := by omega
      have HJ2 : Hid (∃ hj' : j < F.length, k < (F[j]'hj').h) := hide ⟨hj, hkj⟩
      have hml := lvTo_len F k i
      clear hsome hps hbet hkj hki
      generalize (F[j]'hj) = nj at *
      generalize lvTo F k i = M at *
      go_upto_region 6 with (at_builtin; refine wpList_append_item rfl (.tmp 34) (.tmp 39) rfl _ _ _ _ _ _ M nj.x rfl rfl rfl HO.out HB.out (Nat.le_refl _) HB.out.size (by omega) ?_; intro v5 x5 ho5 hb5 hg5; have HO5 := hide ho5; have HB5 := hide hb5; clear ho5 hb5 hg5)
      clear lbj ltj z0 z1 z2 z3 z4 z5
      obtain ⟨lbk, ltk, _, _, _, _, _, _, y5, _, _⟩ := HZJ.out _ HB5.out
      go_wp2_with fail
      refine (Calls.mono (HLJ.out _ HB5.out) ?_); rintro e w6 ⟨rfl, rfl⟩
      go_wp2_with fail
      go_roundg (F.length - j)
      case measure => omega
      case rel => exact ⟨j, rfl, HJ2.out, rfl, by rw [HNX.out]; exact HO5.out, HB5.out⟩
set_option maxHeartbeats 400000 in
theorem all_any (p : Nat) (F : List Nd) (w : World) (hS : SkAt w p F) (hl : F.length ≤ 1099511627776) : Calls Try.prog 31 #[.pointer (some ⟨p, 0, none⟩)] w (RetOw (lvL F 0) w) := by
  have HL := hide (level_any p F 0 w hS (by omega) hl)
  clear hS
  go_enter Try.func31, Try.ntmps31
  go_wp2_with fail
  refine (Calls.mono HL.out ?_); rintro e w1 ⟨v1, rfl, ho1, hg1⟩
  have HO := hide ho1
  have HB := hide hg1
  clear ho1 hg1
  go_wp2_with fail
  go_ret
  exact ⟨_, rfl, HO.out, HB.out⟩
end Go.Proofs.Ytoejhekmfgkklaa
