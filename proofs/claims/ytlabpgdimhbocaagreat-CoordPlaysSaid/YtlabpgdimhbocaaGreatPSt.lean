/- The program's states: contracts of state.Add, Join, Of. Condition: lists of at most 2^38 items. -/
import Derived.Test.YtlabpgdimhbocaaGreatPAdd
import Derived.Test.YtlabpgdimhbocaaGreatPOk
namespace Go.Proofs.YtlabpgdimhbocaaGreat
set_option linter.unusedVariables false
set_option linter.unusedSimpArgs false
open Go.ChangeShapes Go.WideShapes Go.ChangeAt Go.RowKit

/-- What a call returns: an item slice of its own, and its block's rest; below the old heap nothing has turned. -/
def RetOf (L : List It) (w : World) (e : Ending) (w' : World) : Prop := ∃ v, e = .returned v ∧ Og w.heap.size w' v L ∧ Below w.heap.size w w'
theorem pok_sl {v : Value} {L : List It} {w : World} (h : Sl w v L) (hn : L.length ≤ 4611686018427387904) : Calls Tryz.prog 66 #[v] w fun e w' => e = .returned (.bool (stateB L)) ∧ Below w.heap.size w w' := by
  obtain ⟨A, c, rfl, hL, h1, h2⟩ := h
  exact pok_any A c L w hL h1 hn
theorem own_sl {v : Value} {L : List It} {w : World} (h : Sl w v L) (hn : L.length ≤ 2199023255552) : Calls Tryz.prog 65 #[v] w (RetOw L w) := by
  obtain ⟨A, c, rfl, hL, h1, h2⟩ := h
  exact own_any A c L w hL hn
theorem clip_og {base : Nat} {v : Value} {L : List It} {w : World} (h : Og base w v L) : Calls Tryz.prog 69 #[v] w fun e w' => (∃ v', e = .returned v' ∧ Og base w v' L) ∧ w = w' := by
  rcases h with ⟨rfl, rfl⟩ | ⟨g, cap, R, rfl, hb, hg, hnc, hcm, hfit⟩
  · refine (clip_any none 0 0 w (by omega) (by simp)).mono ?_
    rintro e w' ⟨rfl, rfl⟩
    exact ⟨⟨_, rfl, Og.nil_ _ _⟩, rfl⟩
  · refine (clip_any _ L.length cap w hnc hcm).mono ?_
    rintro e w' ⟨rfl, rfl⟩
    exact ⟨⟨_, rfl, .inr ⟨g, L.length, R, rfl, hb, hg, Nat.le_refl _, Nat.le_trans hnc hcm, by omega⟩⟩, rfl⟩
theorem below_wrote {B base : Nat} {w0 w w' : World} {v v' : Value} {L : List It} (h : Below B w0 w) (ho : Og base w v L) (k : Wrote w w' v v') (hB : B ≤ base) (hs : B ≤ w.heap.size) : Below B w0 w' := below_grown h ho k.grown hB hs

set_option maxHeartbeats 3200000 in
/-- The rounds of a Join, from a state on. -/
theorem pjoin_state (va : Value) (La : List It) (A : Option Addr) (c : Nat) (L : List It) (w : World) (ha : Sl w va La) (hL : ItemsAt w A L) (hst : IsState La) (hna : La.length ≤ 274877906944) (hn : L.length ≤ 274877906944) :
    Calls Tryz.prog 53 #[va, .slice A L.length c] w (RetOf (L.foldl addL La) w) := by
  have HL := hide hL
  have HA := hide ha
  have HS := hide hst
  have hsb := stateB_true hst
  clear hL ha hst
  go_enter Tryz.func53, Tryz.ntmps53
  go_wp2_with fail
  refine (Calls.mono (own_sl HA.out (by omega)) ?_); rintro e w1 ⟨v1, rfl, ho1, hg1⟩
  go_wp2_with fail
  refine (Calls.mono (pok_sl (HA.out.below hg1) (by omega)) ?_); rintro e w2 ⟨rfl, hg2⟩
  rw [hsb]
  have HB2 := hide (below_step hg1 hg2)
  have HO2 := hide ((ho1.below hg2).og)
  clear hg1 hg2 ho1
  go_wp2_with fail
  go_loopw [5, 17] (fun v i wr => ∃ k : Nat, i = .int .i64 k ∧ k ≤ L.length ∧ Below w.heap.size w wr ∧ Og w.heap.size wr v ((L.take k).foldl addL La)) (fun _ i _ => L.length - (intOf i).toNat)
  case atStart => exact ⟨0, rfl, by omega, HB2.out, HO2.out⟩
  case round =>
    obtain ⟨k, rfl, hk, hb, ho⟩ := hrel
    have HB := hide hb
    have HO := hide ho
    clear hb ho
    by_cases hlt : k < L.length
    · obtain ⟨bl, off, rfl, hbb, y0, y1, y2, y3, y4⟩ := ItemsAt.item HL.out HB.out hlt
      have hbl : bl < wr.heap.size := Nat.lt_of_lt_of_le hbb HB.out.size
      have HF : Hid ((L.take (k + 1)).foldl addL La = addL ((L.take k).foldl addL La) L[k]) := hide (by rw [List.take_succ_eq_append_getElem hlt, List.foldl_append]; rfl)
      have HN := hide (foldl_state (L.take k) HS.out)
      have hNl : ((L.take k).foldl addL La).length ≤ La.length + k := Nat.le_trans (foldl_len _ _) (by have := List.length_take_le k L; omega)
      generalize (L.take k).foldl addL La = N at *
      generalize L[k] = y at *
      go_wp2_with fail
      refine (Calls.mono (add_any w.heap.size _ N y _ (HO.out.below (below_alloc (Below.refl _ _) _)) (Nat.le_trans HB.out.size (by simp)) HN.out (by omega)) ?_); rintro e w3 ⟨v3, rfl, ho3, hw3⟩
      have hb3 : Below w.heap.size w w3 := below_wrote (below_alloc HB.out _) (HO.out.below (below_alloc (Below.refl _ _) _)) hw3 (Nat.le_refl _) (Nat.le_trans HB.out.size (by simp))
      go_wp2_with fail
      go_roundw
      case rel => exact ⟨k + 1, by go_num, by omega, hb3, by rw [HF.out]; exact ho3⟩
      case measure => simp [intOf]; omega
    · obtain rfl : k = L.length := by omega
      have HO2 := HO.out
      rw [List.take_length] at HO2
      go_wp2_with fail
      refine (Calls.mono (clip_og HO2) ?_); rintro e w3 ⟨⟨v3, rfl, ho3⟩, rfl⟩
      go_wp2_with fail
      go_ret
      exact ⟨_, rfl, ho3, HB.out⟩
theorem pof_any (A : Option Addr) (c : Nat) (L : List It) (w : World) (hL : ItemsAt w A L) (hn : L.length ≤ 274877906944) : Calls Tryz.prog 67 #[.slice A L.length c] w (RetOf (ofL L) w) := by
  have H := hide (pjoin_state (.slice none 0 0) [] A c L w (Sl.nil_ w) hL IsState.nil_ (by simp) hn)
  clear hL
  go_enter Tryz.func67, Tryz.ntmps67
  go_wp2_with fail
  refine (Calls.mono H.out ?_); rintro e w1 ⟨v1, rfl, ho1, hg1⟩
  go_wp2_with fail
  go_ret
  exact ⟨_, rfl, ho1, hg1⟩
theorem pof_sl {v : Value} {L : List It} {w : World} (h : Sl w v L) (hn : L.length ≤ 274877906944) : Calls Tryz.prog 67 #[v] w (RetOf (ofL L) w) := by
  obtain ⟨A, c, rfl, hL, h1, h2⟩ := h
  exact pof_any A c L w hL hn

set_option maxHeartbeats 3200000 in
theorem pjoin_not (va : Value) (La : List It) (A : Option Addr) (c : Nat) (L : List It) (w : World) (ha : Sl w va La) (hL : ItemsAt w A L) (hsb : stateB La = false) (hna : La.length ≤ 274877906944) (hn : L.length ≤ 274877906944) :
    Calls Tryz.prog 53 #[va, .slice A L.length c] w (RetOf (L.foldl addL (ofL La)) w) := by
  have HL := hide hL
  have HA := hide ha
  have hol := ofL_len La
  clear hL ha
  go_enter Tryz.func53, Tryz.ntmps53
  go_wp2_with fail
  refine (Calls.mono (own_sl HA.out (by omega)) ?_); rintro e w1 ⟨v1, rfl, ho1, hg1⟩
  go_wp2_with fail
  refine (Calls.mono (pok_sl (HA.out.below hg1) (by omega)) ?_); rintro e w2 ⟨rfl, hg2⟩
  rw [hsb]
  have HB2 := hide (below_step hg1 hg2)
  clear hg1 hg2 ho1
  go_wp2_with fail
  refine (Calls.mono (pof_sl (HA.out.below HB2.out) hna) ?_); rintro e w3 ⟨v3, rfl, ho3, hg3⟩
  have HB3 := hide (below_step HB2.out hg3)
  have HO3 := hide (ho3.base_ HB2.out.size)
  clear hg3 ho3
  go_wp2_with fail
  go_loopw [5, 17] (fun v i wr => ∃ k : Nat, i = .int .i64 k ∧ k ≤ L.length ∧ Below w.heap.size w wr ∧ Og w.heap.size wr v ((L.take k).foldl addL (ofL La))) (fun _ i _ => L.length - (intOf i).toNat)
  case atStart => exact ⟨0, rfl, by omega, HB3.out, HO3.out⟩
  case round =>
    obtain ⟨k, rfl, hk, hb, ho⟩ := hrel
    have HB := hide hb
    have HO := hide ho
    clear hb ho
    by_cases hlt : k < L.length
    · obtain ⟨bl, off, rfl, hbb, y0, y1, y2, y3, y4⟩ := ItemsAt.item HL.out HB.out hlt
      have hbl : bl < wr.heap.size := Nat.lt_of_lt_of_le hbb HB.out.size
      have HF : Hid ((L.take (k + 1)).foldl addL (ofL La) = addL ((L.take k).foldl addL (ofL La)) L[k]) := hide (by rw [List.take_succ_eq_append_getElem hlt, List.foldl_append]; rfl)
      have HN := hide (foldl_state (L.take k) (ofL_state La))
      have hNl : ((L.take k).foldl addL (ofL La)).length ≤ (ofL La).length + k := Nat.le_trans (foldl_len _ _) (by have := List.length_take_le k L; omega)
      generalize (L.take k).foldl addL (ofL La) = N at *
      generalize L[k] = y at *
      go_wp2_with fail
      refine (Calls.mono (add_any w.heap.size _ N y _ (HO.out.below (below_alloc (Below.refl _ _) _)) (Nat.le_trans HB.out.size (by simp)) HN.out (by omega)) ?_); rintro e w4 ⟨v4, rfl, ho3, hw3⟩
      have hb3 : Below w.heap.size w w4 := below_wrote (below_alloc HB.out _) (HO.out.below (below_alloc (Below.refl _ _) _)) hw3 (Nat.le_refl _) (Nat.le_trans HB.out.size (by simp))
      go_wp2_with fail
      go_roundw
      case rel => exact ⟨k + 1, by go_num, by omega, hb3, by rw [HF.out]; exact ho3⟩
      case measure => simp [intOf]; omega
    · obtain rfl : k = L.length := by omega
      have HO2 := HO.out
      rw [List.take_length] at HO2
      go_wp2_with fail
      refine (Calls.mono (clip_og HO2) ?_); rintro e w4 ⟨⟨v4, rfl, ho3⟩, rfl⟩
      go_wp2_with fail
      go_ret
      exact ⟨_, rfl, ho3, HB.out⟩
theorem pjoin_sl {v u : Value} {L M : List It} {w : World} (h : Sl w v L) (k : Sl w u M) (hn : L.length ≤ 274877906944) (hm : M.length ≤ 274877906944) : Calls Tryz.prog 53 #[v, u] w (RetOf (joinL L M) w) := by
  obtain ⟨A, c, rfl, hM, h1, h2⟩ := k
  cases hs : stateB L
  · have e : joinL L M = M.foldl addL (ofL L) := by unfold joinL; rw [hs]; rfl
    rw [e]
    exact pjoin_not v L A c M w h hM hs hn hm
  · rw [joinL_of (stateB_iff.1 hs)]
    exact pjoin_state v L A c M w h hM (stateB_iff.1 hs) hn hm

end Go.Proofs.YtlabpgdimhbocaaGreat
