/- The document's states: the contract of clepsydraref5.Of. Condition: a list of at most 2^38 items. -/
import Derived.Test.YtlabpgdimhbocaaGreatRAdd
namespace Go.Proofs.YtlabpgdimhbocaaGreat
set_option linter.unusedVariables false
set_option linter.unusedSimpArgs false
open Go.ChangeShapes Go.WideShapes Go.ChangeAt Go.RowKit

theorem fold_good {L : List It} {k : Nat} (hk : k < L.length) {a : List It} (h : goodB L[k] = true) (hs : IsState ((L.take k).foldl addL a)) : (L.take (k + 1)).foldl addL a = refAdd ((L.take k).foldl addL a) L[k] := by
  rw [List.take_succ_eq_append_getElem hk, List.foldl_append]
  exact (refAdd_eq hs.2.1 (by simpa only [goodB, decide_eq_true_eq] using h)).symm
theorem fold_bad {L : List It} {k : Nat} (hk : k < L.length) {a : List It} (h : goodB L[k] = false) : (L.take (k + 1)).foldl addL a = (L.take k).foldl addL a := by
  rw [List.take_succ_eq_append_getElem hk, List.foldl_append]
  exact addL_bad (by simpa only [goodB, decide_eq_false_iff_not] using h)
theorem fold_len {L : List It} (k : Nat) (a : List It) : ((L.take k).foldl addL a).length ≤ a.length + k := Nat.le_trans (foldl_len _ _) (by have := List.length_take_le k L; omega)
theorem radd_sl {v : Value} {L : List It} {w : World} (h : Sl w v L) (x : It) (hn : L.length ≤ 1099511627776) : Calls Tryz.prog 47 #[v, x.val] w (RetSl (refAdd L x) w) := by
  obtain ⟨A, c, rfl, hL, h1, h2⟩ := h
  exact radd_any A c L x w hL h1 h2 hn

set_option maxHeartbeats 3200000 in
theorem rof_any (A : Option Addr) (c : Nat) (L : List It) (w : World) (hL : ItemsAt w A L) (hn : L.length ≤ 274877906944) :
    Calls Tryz.prog 46 #[.slice A L.length c] w (RetSl (ofL L) w) := by
  have HL := hide hL
  clear hL
  go_enter Tryz.func46, Tryz.ntmps46
  go_wp2_with fail
  go_loopw [3, 4] (fun v i wr => ∃ k : Nat, i = .int .i64 k ∧ k ≤ L.length ∧ Below w.heap.size w wr ∧ Sl wr v ((L.take k).foldl addL [])) (fun _ i _ => L.length - (intOf i).toNat)
  case atStart => exact ⟨0, rfl, by omega, Below.refl _ _, Sl.nil_ _⟩
  case round =>
    obtain ⟨k, rfl, hk, hb, hs⟩ := hrel
    have HB := hide hb
    have HS := hide hs
    clear hb hs
    by_cases hlt : k < L.length
    · obtain ⟨bl, off, rfl, hbb, y0, y1, y2, y3, y4⟩ := ItemsAt.item HL.out HB.out hlt
      have hbl : bl < wr.heap.size := Nat.lt_of_lt_of_le hbb HB.out.size
      have hNl := fold_len (L := L) k []
      have H1 := hide (fun h => fold_good hlt (a := []) h (foldl_state _ IsState.nil_))
      have H2 := hide (fun h => fold_bad hlt (a := []) h)
      generalize (L.take k).foldl addL [] = N at *
      generalize L[k] = y at *
      cases hg : goodB y
      · go_wp2_with fail
        refine (Calls.mono (rgood_any y _) ?_); rintro e w1 ⟨rfl, hg1⟩; obtain ⟨hc1, hf1⟩ := bcell hg1
        try rw [hg]
        go_wp2_with fail
        go_roundw
        case rel => exact ⟨k + 1, by go_num, by omega, below_step HB.out hg1, by rw [H2.out hg]; exact HS.out.below hg1⟩
        case measure => simp [intOf]; omega
      · go_wp2_with fail
        refine (Calls.mono (rgood_any y _) ?_); rintro e w1 ⟨rfl, hg1⟩; obtain ⟨hc1, hf1⟩ := bcell hg1
        try rw [hg]
        go_wp2_with fail
        refine (Calls.mono (radd_sl (HS.out.below hg1) y (by simp at hNl; omega)) ?_); rintro e w2 ⟨v2, rfl, hs2, hg2⟩
        go_wp2_with fail
        go_roundw
        case rel => exact ⟨k + 1, by go_num, by omega, below_step (below_step HB.out hg1) hg2, by rw [H1.out hg]; exact hs2⟩
        case measure => simp [intOf]; omega
    · obtain rfl : k = L.length := by omega
      go_wp2_with fail
      go_ret
      have HS2 := HS.out
      rw [List.take_length] at HS2
      exact ⟨_, rfl, HS2, HB.out⟩
end Go.Proofs.YtlabpgdimhbocaaGreat
