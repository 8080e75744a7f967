/- The items that answers stand for: axiom.items, Fold, clepsydraref20.Items: contracts. Condition: the list's length. -/
import Derived.Test.YtebnifpclebliaaAn
import Derived.Test.YtebnifpclebliaaPSt
namespace Go.Proofs.Ytebnifpclebliaa
set_option linter.unusedVariables false
set_option linter.unusedSimpArgs false
open Go.ChangeShapes Go.WideShapes Go.ChangeAt Go.RowKit

abbrev AnsAt (w : World) (A : Option Addr) (L : List An) : Prop := RowAt An.cells 8 w A L
theorem AnsAt.item {w w' : World} {A : Option Addr} {L : List An} (h : AnsAt w A L) (hb : Below w.heap.size w w') {k : Nat} (hk : k < L.length) :
    ∃ b off, A = some ⟨b, off, none⟩ ∧ b < w.heap.size ∧ AnAt w' b (off + k * 8) L[k] := by
  obtain ⟨b, off, e, hlt, hc⟩ := h.at_ hk
  refine ⟨b, off, e, hlt, ?_⟩
  have hx : ∀ j u, (An.cells L[k])[j]? = some u → w'.cell? ⟨b, off + k * 8 + j, none⟩ = some u := fun j u hu => (hb.cell (p := ⟨b, _, none⟩) hlt).trans (hc k hk j u hu)
  exact ⟨Nat.lt_of_lt_of_le hlt hb.size, hx 0 _ rfl, hx 1 _ rfl, hx 2 _ rfl, hx 3 _ rfl, hx 4 _ rfl, hx 5 _ rfl, hx 6 _ rfl, hx 7 _ rfl⟩
def itemsL (L : List An) : List It := L.filterMap itO
theorem itemsL_len (L : List An) : (itemsL L).length ≤ L.length := List.length_filterMap_le _ _
theorem itemsL_in {L : List An} {k : Nat} (hk : k < L.length) (h : itB L[k] = true) : itemsL (L.take (k + 1)) = itemsL (L.take k) ++ [itV L[k]] := by
  unfold itemsL
  rw [List.take_succ_eq_append_getElem hk, List.filterMap_append]
  have : itO L[k] = some (itV L[k]) := by unfold itO itV; rw [if_pos h, if_pos h]
  simp [this]
theorem itemsL_out {L : List An} {k : Nat} (hk : k < L.length) (h : itB L[k] = false) : itemsL (L.take (k + 1)) = itemsL (L.take k) := by
  unfold itemsL
  rw [List.take_succ_eq_append_getElem hk, List.filterMap_append]
  have : itO L[k] = none := by unfold itO; rw [h]; rfl
  simp [this]

set_option maxHeartbeats 3200000 in
set_option maxRecDepth 100000 in
theorem aitems_any (A : Option Addr) (c : Nat) (L : List An) (w : World) (hL : AnsAt w A L) (hn : L.length ≤ 274877906944) : Calls Try.prog 25 #[.slice A L.length c] w (RetOw (itemsL L) w) := by
  have HL := hide hL
  clear hL
  go_enter Try.func25, Try.ntmps25
  go_wp2_with fail
  go_loopw [3, 10] (fun sv i wr => ∃ k : Nat, i = .int .i64 k ∧ k ≤ L.length ∧ Ow w.heap.size wr sv (itemsL (L.take k)) ∧ Below w.heap.size w wr) (fun _ i _ => L.length - (intOf i).toNat)
  case atStart => exact ⟨0, rfl, by omega, Ow.nil_ _ _, Below.refl _ _⟩
  case round =>
    obtain ⟨k, rfl, hk, hown, hb⟩ := hrel
    have HO := hide hown
    have HB := hide hb
    clear hown hb
    by_cases hlt : k < L.length
    · obtain ⟨bl, off, rfl, hbb, cl, y0, y1, y2, y3, y4, y5, y6, y7⟩ := AnsAt.item HL.out HB.out hlt
      have HF1 := hide (itemsL_in hlt)
      have HF2 := hide (itemsL_out hlt)
      have hNl : (itemsL (L.take k)).length ≤ k := Nat.le_trans (itemsL_len _) (List.length_take_le _ _)
      generalize L[k] = y at *
      generalize itemsL (L.take k) = N at *
      have HC := hide (fun W => aitem_any y W)
      generalize itV y = z at *
      have hba := below_alloc HB.out (.cells y.cells.toArray 41)
      cases hp : itB y
      · have HN := hide (HF2.out hp)
        rw [hp] at HC
        clear hp hba
        go_wp2_with fail
        refine (Calls.mono (HC.out _) ?_); rintro e w1 ⟨rfl, hg1⟩
        go_wp2_with fail
        go_roundw
        case rel => exact ⟨k + 1, by go_num, by omega, by rw [HN.out]; exact OwnL.alloc ((OwnL.alloc HO.out _).below hg1) _, below_alloc (below_step (below_alloc HB.out _) hg1) _⟩
        case measure => simp [intOf]; omega
      · have HN := hide (HF1.out hp)
        rw [hp] at HC
        clear hp hba
        go_wp2_with fail
        refine (Calls.mono (HC.out _) ?_); rintro e w1 ⟨rfl, hg1⟩
        have hb1 : Below w.heap.size w w1 := below_step (below_alloc HB.out _) hg1
        have HO1 : Hid (Ow w.heap.size w1 u3 N) := hide ((OwnL.alloc HO.out _).below hg1)
        have HB1 := hide hb1
        clear hb1 hg1
        go_wp2_with (at_builtin; refine wpList_append_item rfl (.tmp 20) (.tmp 22) rfl _ _ _ (w1.alloc (.cells z.cells.toArray 32)) _ _ N z rfl (by show Value.slice (some ⟨w1.heap.size + 1, 0, none⟩) 1 1 = _; simp) rfl (OwnL.alloc HO1.out _) (below_alloc HB1.out _) (Nat.le_refl _) (by have := HB1.out.size; simp; omega) (by omega) ?_; intro v1 u1 ho1 hbu1 hgu1)
        go_roundw
        case rel => exact ⟨k + 1, by go_num, by omega, by rw [HN.out]; exact ho1, hbu1⟩
        case measure => simp [intOf]; omega
    · obtain rfl : k = L.length := by omega
      go_wp2_with fail
      go_ret
      have HS2 := HO.out
      rw [List.take_length] at HS2
      exact ⟨_, rfl, HS2, HB.out⟩
set_option maxHeartbeats 3200000 in
set_option maxRecDepth 100000 in
theorem ritems_any (A : Option Addr) (c : Nat) (L : List An) (w : World) (hL : AnsAt w A L) (hn : L.length ≤ 274877906944) : Calls Try.prog 16 #[.slice A L.length c] w (RetOw (itemsL L) w) := by
  have HL := hide hL
  clear hL
  go_enter Try.func16, Try.ntmps16
  go_wp2_with fail
  go_loopw [3, 4] (fun sv i wr => ∃ k : Nat, i = .int .i64 k ∧ k ≤ L.length ∧ Ow w.heap.size wr sv (itemsL (L.take k)) ∧ Below w.heap.size w wr) (fun _ i _ => L.length - (intOf i).toNat)
  case atStart => exact ⟨0, rfl, by omega, Ow.nil_ _ _, Below.refl _ _⟩
  case round =>
    obtain ⟨k, rfl, hk, hown, hb⟩ := hrel
    have HO := hide hown
    have HB := hide hb
    clear hown hb
    by_cases hlt : k < L.length
    · obtain ⟨bl, off, rfl, hbb, cl, y0, y1, y2, y3, y4, y5, y6, y7⟩ := AnsAt.item HL.out HB.out hlt
      have HF1 := hide (itemsL_in hlt)
      have HF2 := hide (itemsL_out hlt)
      have hNl : (itemsL (L.take k)).length ≤ k := Nat.le_trans (itemsL_len _) (List.length_take_le _ _)
      generalize L[k] = y at *
      generalize itemsL (L.take k) = N at *
      have HC := hide (fun W => ritem_any y W)
      generalize itV y = z at *
      have hba := HB.out
      cases hp : itB y
      · have HN := hide (HF2.out hp)
        rw [hp] at HC
        clear hp hba
        go_wp2_with fail
        refine (Calls.mono (HC.out _) ?_); rintro e w1 ⟨rfl, hg1⟩
        go_wp2_with fail
        go_roundw
        case rel => exact ⟨k + 1, by go_num, by omega, by rw [HN.out]; exact OwnL.alloc (OwnL.below HO.out hg1) _, below_alloc (below_step HB.out hg1) _⟩
        case measure => simp [intOf]; omega
      · have HN := hide (HF1.out hp)
        rw [hp] at HC
        clear hp hba
        go_wp2_with fail
        refine (Calls.mono (HC.out _) ?_); rintro e w1 ⟨rfl, hg1⟩
        have hb1 : Below w.heap.size w w1 := below_step HB.out hg1
        have HO1 : Hid (Ow w.heap.size w1 u3 N) := hide (OwnL.below HO.out hg1)
        have HB1 := hide hb1
        clear hb1 hg1
        go_wp2_with (at_builtin; refine wpList_append_item rfl (.tmp 22) (.tmp 24) rfl _ _ _ (w1.alloc (.cells z.cells.toArray 32)) _ _ N z rfl (by show Value.slice (some ⟨w1.heap.size + 1, 0, none⟩) 1 1 = _; simp) rfl (OwnL.alloc HO1.out _) (below_alloc HB1.out _) (Nat.le_refl _) (by have := HB1.out.size; simp; omega) (by omega) ?_; intro v1 u1 ho1 hbu1 hgu1)
        go_roundw
        case rel => exact ⟨k + 1, by go_num, by omega, by rw [HN.out]; exact ho1, hbu1⟩
        case measure => simp [intOf]; omega
    · obtain rfl : k = L.length := by omega
      go_wp2_with fail
      go_ret
      have HS2 := HO.out
      rw [List.take_length] at HS2
      exact ⟨_, rfl, HS2, HB.out⟩

theorem fold_any (A : Option Addr) (c : Nat) (L : List An) (w : World) (hL : AnsAt w A L) (hn : L.length ≤ 274877906944) : Calls Try.prog 8 #[.slice A L.length c] w (RetOf (ofL (itemsL L)) w) := by
  have HC := hide (fun W => aitems_any A c L W)
  have HL := hide hL
  clear hL
  have hlen := itemsL_len L
  generalize itemsL L = N at *
  go_enter Try.func8, Try.ntmps8
  go_wp2_with fail
  refine (Calls.mono (HC.out _ HL.out hn) ?_); rintro e w1 ⟨v1, rfl, ho1, hg1⟩
  have HS := hide (Ow.sl ho1)
  have HB := hide hg1
  clear ho1 hg1
  go_wp2_with fail
  refine (Calls.mono (pof_sl HS.out (by omega)) ?_); rintro e w2 ⟨v2, rfl, ho2, hg2⟩
  go_wp2_with fail
  go_ret
  exact ⟨_, rfl, ho2.base_ HB.out.size, below_step HB.out hg2⟩
end Go.Proofs.Ytebnifpclebliaa
