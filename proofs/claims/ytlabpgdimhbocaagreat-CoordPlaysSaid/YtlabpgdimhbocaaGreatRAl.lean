/- The document's add, Of, Join once more: the result is the given slice or lies in new memory. Conditions: as there. -/
import Derived.Test.YtlabpgdimhbocaaGreatRSt2
namespace Go.Proofs.YtlabpgdimhbocaaGreat
set_option linter.unusedVariables false
set_option linter.unusedSimpArgs false
open Go.ChangeShapes Go.WideShapes Go.ChangeAt Go.RowKit
/-- The given slice, or one in new memory. -/
def Al (w w' : World) (v v' : Value) : Prop := v' = v ∨ ∀ g, v'.ownBlock = some g → w.heap.size ≤ g ∧ g < w'.heap.size
theorem Al.step {w u u' : World} {v v1 v2 : Value} (h : Al w u v v1) (hb : Below w.heap.size w u) (k : Al u u' v1 v2) (hs : u.heap.size ≤ u'.heap.size) : Al w u' v v2 := by
  rcases k with k | k
  · rw [k]
    rcases h with h | h
    · exact .inl h
    · exact .inr (fun g hg => ⟨(h g hg).1, Nat.lt_of_lt_of_le (h g hg).2 hs⟩)
  · exact .inr (fun g hg => ⟨Nat.le_trans hb.size (k g hg).1, (k g hg).2⟩)
theorem Al.up {w u u' : World} {v v1 : Value} (h : Al w u v v1) (hs : u.heap.size ≤ u'.heap.size) : Al w u' v v1 := by
  rcases h with h | h
  · exact .inl h
  · exact .inr (fun g hg => ⟨(h g hg).1, Nat.lt_of_lt_of_le (h g hg).2 hs⟩)
theorem Al.fresh {w w' : World} {v : Value} (h : Al w w' (.slice none 0 0) v) : ∀ g, v.ownBlock = some g → w.heap.size ≤ g ∧ g < w'.heap.size := by
  rcases h with rfl | h
  · intro g hg; cases hg
  · exact h
def RetAl (v : Value) (L : List It) (w : World) (e : Ending) (w' : World) : Prop := ∃ v', e = .returned v' ∧ Sl w' v' L ∧ Below w.heap.size w w' ∧ Al w w' v v'
set_option maxHeartbeats 3200000 in
set_option maxRecDepth 100000 in
theorem radd_al_any (A : Option Addr) (c : Nat) (L : List It) (x : It) (w : World) (hL : ItemsAt w A L) (h1 : L.length ≤ c) (h2 : c ≤ maxLen) (hn : L.length ≤ 1099511627776) :
    Calls Tryz.prog 47 #[.slice A L.length c, x.val] w (RetAl (.slice A L.length c) (refAdd L x) w) := by
  have HL := hide hL
  have HS := hide (Sl.mk_ hL h1 h2)
  clear hL
  go_enter Tryz.func47, Tryz.ntmps47
  go_wp2_with fail
  go_loopw [5, 6, 7] (fun v p i wr => ∃ (k : Nat) (b : Bool) (N : List It), i = .int .i64 k ∧ p = .bool b ∧ k ≤ L.length ∧ N.length ≤ 2 * k ∧ optApp N (refRest x b (L.drop k)) = refRest x false L ∧ Ow (w.alloc (.cells x.cells.toArray 78)).heap.size wr v N ∧ Below (w.alloc (.cells x.cells.toArray 78)).heap.size (w.alloc (.cells x.cells.toArray 78)) wr) (fun _ _ i _ => L.length - (intOf i).toNat)
  case atStart => exact ⟨0, false, [], rfl, rfl, by omega, by simp, optApp_nil _, Ow.nil_ _ _, Below.refl _ _⟩
  case round =>
    obtain ⟨k, b, N, rfl, rfl, hk, hN, heq, hown, hb⟩ := hrel
    have HE := hide heq
    have hbw : Below w.heap.size w wr := ((Below.refl _ _).alloc (Nat.le_refl _) _).trans (hb.mono (by simp))
    obtain ⟨x0, x1, x2, x3, x4⟩ := box_item (g := w.heap.size) (x := x) ((hb.block _ (by simp)).trans (heap_alloc_new w _))
    have hsz : w.heap.size < wr.heap.size := by have := hb.size; simp at this; omega
    have HB := hide hb
    have HO := hide hown
    have HW := hide hbw
    clear heq hb hown hbw
    by_cases hlt : k < L.length
    · obtain ⟨bl, off, rfl, hbb, y0, y1, y2, y3, y4⟩ := ItemsAt.item HL.out HW.out hlt
      have hbl : bl < wr.heap.size := by have := HW.out.size; omega
      have hd1 := fun T h => rest_hid (T := T) hlt h (x := x) (p := b) (N := N)
      have hd2 := fun T h => rest_same (T := T) hlt h (x := x) (p := b) (N := N)
      have hd3 := fun T h => rest_beaten (T := T) hlt h (x := x) (p := b) (N := N)
      have hd4 := fun T h => rest_on (T := T) hlt h (x := x) (p := b) (N := N)
      have H1 := hide (hd1 _ HE.out)
      have H2 := hide (hd2 _ HE.out)
      have H3 := hide (hd3 _ HE.out)
      have H4 := hide (hd4 _ HE.out)
      clear hd1 hd2 hd3 hd4
      generalize L[k] = y at *
      by_cases c1 : hidesB y x = true
      case pos =>
        have HT := hide (H1.out c1)
        go_wp2_with fail
        refine (Calls.mono (rhides_any y x _) ?_); rintro e w1 ⟨rfl, hg1⟩; obtain ⟨hc1, hf1⟩ := bcell hg1
        have HB1 := hide (below_step (below_alloc HB.out _) hg1)
        have hz1 : wr.heap.size < w1.heap.size := by have := hg1.size; (try simp at this); omega
        have hza1 : w.heap.size < w1.heap.size := by omega
        have hzb1 : bl < w1.heap.size := by omega
        go_wp2_with fail
        go_ret
        refine ⟨_, rfl, ?_, ((Below.refl _ _).alloc (Nat.le_refl _) _).trans (HB1.out.mono (by simp)), .inl rfl⟩
        unfold refAdd; rw [HT.out]; exact HS.out.below (((Below.refl _ _).alloc (Nat.le_refl _) _).trans (HB1.out.mono (by simp)))
      have c1' : hidesB y x = false := by simpa using c1
      clear c1
      by_cases c2 : sameB x y = true
      case pos =>
        by_cases c3 : winsB x y = true
        case pos =>
          have HT := hide (H2.out c1' c2 c3)
          go_wp2_with fail
          refine (Calls.mono (rhides_any y x _) ?_); rintro e w2 ⟨rfl, hg2⟩; obtain ⟨hc2, hf2⟩ := bcell hg2
          have HB2 := hide (below_step (below_alloc HB.out _) hg2)
          have hz2 : wr.heap.size < w2.heap.size := by have := hg2.size; (try simp at this); omega
          have hza2 : w.heap.size < w2.heap.size := by omega
          have hzb2 : bl < w2.heap.size := by omega
          go_wp2_with fail
          refine (Calls.mono (rsame_any x y _) ?_); rintro e w3 ⟨rfl, hg3⟩; obtain ⟨hc3, hf3⟩ := bcell hg3
          have HB3 := hide (below_step HB2.out hg3)
          have hz3 : wr.heap.size < w3.heap.size := by have := hg3.size; (try simp at this); omega
          have hza3 : w.heap.size < w3.heap.size := by omega
          have hzb3 : bl < w3.heap.size := by omega
          go_wp2_with fail
          refine (Calls.mono (rwins_any x y _) ?_); rintro e w4 ⟨rfl, hg4⟩; obtain ⟨hc4, hf4⟩ := bcell hg4
          have HB4 := hide (below_step HB3.out hg4)
          have hz4 : wr.heap.size < w4.heap.size := by have := hg4.size; (try simp at this); omega
          have hza4 : w.heap.size < w4.heap.size := by omega
          have hzb4 : bl < w4.heap.size := by omega
          go_wp2_with fail
          go_roundw
          case rel => exact ⟨k + 1, b, N, by go_num, rfl, by omega, by omega, HT.out, (Ow.below (Ow.below (Ow.below (OwnL.alloc HO.out _) hg2) hg3) hg4), HB4.out⟩
          case measure => simp [intOf]; omega
        have c3' : winsB x y = false := by simpa using c3
        clear c3
        have HT := hide (H3.out c1' c2 c3')
        go_wp2_with fail
        refine (Calls.mono (rhides_any y x _) ?_); rintro e w5 ⟨rfl, hg5⟩; obtain ⟨hc5, hf5⟩ := bcell hg5
        have HB5 := hide (below_step (below_alloc HB.out _) hg5)
        have hz5 : wr.heap.size < w5.heap.size := by have := hg5.size; (try simp at this); omega
        have hza5 : w.heap.size < w5.heap.size := by omega
        have hzb5 : bl < w5.heap.size := by omega
        go_wp2_with fail
        refine (Calls.mono (rsame_any x y _) ?_); rintro e w6 ⟨rfl, hg6⟩; obtain ⟨hc6, hf6⟩ := bcell hg6
        have HB6 := hide (below_step HB5.out hg6)
        have hz6 : wr.heap.size < w6.heap.size := by have := hg6.size; (try simp at this); omega
        have hza6 : w.heap.size < w6.heap.size := by omega
        have hzb6 : bl < w6.heap.size := by omega
        go_wp2_with fail
        refine (Calls.mono (rwins_any x y _) ?_); rintro e w7 ⟨rfl, hg7⟩; obtain ⟨hc7, hf7⟩ := bcell hg7
        have HB7 := hide (below_step HB6.out hg7)
        have hz7 : wr.heap.size < w7.heap.size := by have := hg7.size; (try simp at this); omega
        have hza7 : w.heap.size < w7.heap.size := by omega
        have hzb7 : bl < w7.heap.size := by omega
        go_wp2_with fail
        go_ret
        refine ⟨_, rfl, ?_, ((Below.refl _ _).alloc (Nat.le_refl _) _).trans (HB7.out.mono (by simp)), .inl rfl⟩
        unfold refAdd; rw [HT.out]; exact HS.out.below (((Below.refl _ _).alloc (Nat.le_refl _) _).trans (HB7.out.mono (by simp)))
      have c2' : sameB x y = false := by simpa using c2
      clear c2
      have HT := hide (H4.out c1' c2')
      clear H1 H2 H3
      cases b
      case true =>
        by_cases c5 : hidesB x y = true
        case pos =>
          have hT : optApp (N) (refRest x true (L.drop (k + 1))) = refRest x false L := by have := H4.out c1' c2'; simpa [c5] using this
          have HT := hide hT
          clear hT
          go_wp2_with fail
          refine (Calls.mono (rhides_any y x _) ?_); rintro e w8 ⟨rfl, hg8⟩; obtain ⟨hc8, hf8⟩ := bcell hg8
          have HB8 := hide (below_step (below_alloc HB.out _) hg8)
          have hz8 : wr.heap.size < w8.heap.size := by have := hg8.size; (try simp at this); omega
          have hza8 : w.heap.size < w8.heap.size := by omega
          have hzb8 : bl < w8.heap.size := by omega
          go_wp2_with fail
          refine (Calls.mono (rsame_any x y _) ?_); rintro e w9 ⟨rfl, hg9⟩; obtain ⟨hc9, hf9⟩ := bcell hg9
          have HB9 := hide (below_step HB8.out hg9)
          have hz9 : wr.heap.size < w9.heap.size := by have := hg9.size; (try simp at this); omega
          have hza9 : w.heap.size < w9.heap.size := by omega
          have hzb9 : bl < w9.heap.size := by omega
          go_wp2_with fail
          refine (Calls.mono (rhides_any x y _) ?_); rintro e w10 ⟨rfl, hg10⟩; obtain ⟨hc10, hf10⟩ := bcell hg10
          have HB10 := hide (below_step HB9.out hg10)
          have hz10 : wr.heap.size < w10.heap.size := by have := hg10.size; (try simp at this); omega
          have hza10 : w.heap.size < w10.heap.size := by omega
          have hzb10 : bl < w10.heap.size := by omega
          go_wp2_with fail
          go_roundw
          case rel => exact ⟨k + 1, true, N, by go_num, rfl, by omega, by (try simp); omega, HT.out, (Ow.below (Ow.below (Ow.below (OwnL.alloc HO.out _) hg8) hg9) hg10), HB10.out⟩
          case measure => simp [intOf]; omega
        have c5' : hidesB x y = false := by simpa using c5
        clear c5
        have c5 := c5'
        clear c5'
        have hT : optApp (N ++ [y]) (refRest x true (L.drop (k + 1))) = refRest x false L := by have := H4.out c1' c2'; simpa [c5] using this
        have HT := hide hT
        clear hT
        go_wp2_with fail
        refine (Calls.mono (rhides_any y x _) ?_); rintro e w11 ⟨rfl, hg11⟩; obtain ⟨hc11, hf11⟩ := bcell hg11
        have HB11 := hide (below_step (below_alloc HB.out _) hg11)
        have hz11 : wr.heap.size < w11.heap.size := by have := hg11.size; (try simp at this); omega
        have hza11 : w.heap.size < w11.heap.size := by omega
        have hzb11 : bl < w11.heap.size := by omega
        go_wp2_with fail
        refine (Calls.mono (rsame_any x y _) ?_); rintro e w12 ⟨rfl, hg12⟩; obtain ⟨hc12, hf12⟩ := bcell hg12
        have HB12 := hide (below_step HB11.out hg12)
        have hz12 : wr.heap.size < w12.heap.size := by have := hg12.size; (try simp at this); omega
        have hza12 : w.heap.size < w12.heap.size := by omega
        have hzb12 : bl < w12.heap.size := by omega
        go_wp2_with fail
        refine (Calls.mono (rhides_any x y _) ?_); rintro e w13 ⟨rfl, hg13⟩; obtain ⟨hc13, hf13⟩ := bcell hg13
        have HB13 := hide (below_step HB12.out hg13)
        have hz13 : wr.heap.size < w13.heap.size := by have := hg13.size; (try simp at this); omega
        have hza13 : w.heap.size < w13.heap.size := by omega
        have hzb13 : bl < w13.heap.size := by omega
        go_wp2_with (at_builtin; refine wpList_append_item rfl (.tmp 46) (.tmp 48) rfl _ _ _ _ _ _ (N) y rfl rfl rfl (Ow.below (Ow.below (Ow.below (OwnL.alloc HO.out _) hg11) hg12) hg13) HB13.out (Nat.le_refl _) HB13.out.size (by (try simp); omega) ?_; intro v1 u1 ho1 hbu1 hgu1)
        have HBU1 := hide hbu1
        have HOU1 := hide ho1
        go_wp2_with fail
        go_roundw
        case rel => exact ⟨k + 1, true, N ++ [y], by go_num, rfl, by omega, by (try simp); omega, HT.out, HOU1.out, HBU1.out⟩
        case measure => simp [intOf]; omega
      case false =>
        by_cases c4 : ltB x y = true
        case pos =>
          by_cases c5 : hidesB x y = true
          case pos =>
            have hT : optApp (N ++ [x]) (refRest x true (L.drop (k + 1))) = refRest x false L := by have := H4.out c1' c2'; simpa [c4, c5] using this
            have HT := hide hT
            clear hT
            go_wp2_with fail
            refine (Calls.mono (rhides_any y x _) ?_); rintro e w14 ⟨rfl, hg14⟩; obtain ⟨hc14, hf14⟩ := bcell hg14
            have HB14 := hide (below_step (below_alloc HB.out _) hg14)
            have hz14 : wr.heap.size < w14.heap.size := by have := hg14.size; (try simp at this); omega
            have hza14 : w.heap.size < w14.heap.size := by omega
            have hzb14 : bl < w14.heap.size := by omega
            go_wp2_with fail
            refine (Calls.mono (rsame_any x y _) ?_); rintro e w15 ⟨rfl, hg15⟩; obtain ⟨hc15, hf15⟩ := bcell hg15
            have HB15 := hide (below_step HB14.out hg15)
            have hz15 : wr.heap.size < w15.heap.size := by have := hg15.size; (try simp at this); omega
            have hza15 : w.heap.size < w15.heap.size := by omega
            have hzb15 : bl < w15.heap.size := by omega
            go_wp2_with fail
            refine (Calls.mono (rless_any x y _) ?_); rintro e w16 ⟨rfl, hg16⟩; obtain ⟨hc16, hf16⟩ := bcell hg16
            have HB16 := hide (below_step HB15.out hg16)
            have hz16 : wr.heap.size < w16.heap.size := by have := hg16.size; (try simp at this); omega
            have hza16 : w.heap.size < w16.heap.size := by omega
            have hzb16 : bl < w16.heap.size := by omega
            have hnx : some w.heap.size ≠ u5.ownBlock := fun e => by have := (OwnL.lt HO.out _ e.symm).1; simp at this; omega
            have hny : some wr.heap.size ≠ u5.ownBlock := fun e => by have := (OwnL.lt HO.out _ e.symm).2; omega
            go_wp2_with (at_builtin; refine wpList_append_item rfl (.tmp 38) (.tmp 40) rfl _ _ _ _ _ _ (N) x rfl rfl rfl (Ow.below (Ow.below (Ow.below (OwnL.alloc HO.out _) hg14) hg15) hg16) HB16.out (Nat.le_refl _) HB16.out.size (by (try simp); omega) ?_; intro v2 u2 ho2 hbu2 hgu2; obtain ⟨hcx, hfx⟩ := gcell hgu2 hza16 hnx; obtain ⟨hcy, hfy⟩ := gcell hgu2 hz16 hny; have hzu : wr.heap.size < u2.heap.size := Nat.lt_of_lt_of_le hz16 hgu2.size; have hzv : w.heap.size < u2.heap.size := Nat.lt_of_lt_of_le hza16 hgu2.size)
            have HBU2 := hide hbu2
            have HOU2 := hide ho2
            go_wp2_with fail
            refine (Calls.mono (rhides_any x y _) ?_); rintro e w17 ⟨rfl, hg17⟩; obtain ⟨hc17, hf17⟩ := bcell hg17
            have HB17 := hide (below_step HBU2.out hg17)
            have hzw17 : wr.heap.size < w17.heap.size := by have := hg17.size; omega
            go_wp2_with fail
            go_roundw
            case rel => exact ⟨k + 1, true, N ++ [x], by go_num, rfl, by omega, by (try simp); omega, HT.out, (Ow.below HOU2.out hg17), HB17.out⟩
            case measure => simp [intOf]; omega
          have c5' : hidesB x y = false := by simpa using c5
          clear c5
          have c5 := c5'
          clear c5'
          have hT : optApp (N ++ [x] ++ [y]) (refRest x true (L.drop (k + 1))) = refRest x false L := by have := H4.out c1' c2'; simpa [c4, c5] using this
          have HT := hide hT
          clear hT
          go_wp2_with fail
          refine (Calls.mono (rhides_any y x _) ?_); rintro e w18 ⟨rfl, hg18⟩; obtain ⟨hc18, hf18⟩ := bcell hg18
          have HB18 := hide (below_step (below_alloc HB.out _) hg18)
          have hz18 : wr.heap.size < w18.heap.size := by have := hg18.size; (try simp at this); omega
          have hza18 : w.heap.size < w18.heap.size := by omega
          have hzb18 : bl < w18.heap.size := by omega
          go_wp2_with fail
          refine (Calls.mono (rsame_any x y _) ?_); rintro e w19 ⟨rfl, hg19⟩; obtain ⟨hc19, hf19⟩ := bcell hg19
          have HB19 := hide (below_step HB18.out hg19)
          have hz19 : wr.heap.size < w19.heap.size := by have := hg19.size; (try simp at this); omega
          have hza19 : w.heap.size < w19.heap.size := by omega
          have hzb19 : bl < w19.heap.size := by omega
          go_wp2_with fail
          refine (Calls.mono (rless_any x y _) ?_); rintro e w20 ⟨rfl, hg20⟩; obtain ⟨hc20, hf20⟩ := bcell hg20
          have HB20 := hide (below_step HB19.out hg20)
          have hz20 : wr.heap.size < w20.heap.size := by have := hg20.size; (try simp at this); omega
          have hza20 : w.heap.size < w20.heap.size := by omega
          have hzb20 : bl < w20.heap.size := by omega
          have hnx : some w.heap.size ≠ u5.ownBlock := fun e => by have := (OwnL.lt HO.out _ e.symm).1; simp at this; omega
          have hny : some wr.heap.size ≠ u5.ownBlock := fun e => by have := (OwnL.lt HO.out _ e.symm).2; omega
          go_wp2_with (at_builtin; refine wpList_append_item rfl (.tmp 38) (.tmp 40) rfl _ _ _ _ _ _ (N) x rfl rfl rfl (Ow.below (Ow.below (Ow.below (OwnL.alloc HO.out _) hg18) hg19) hg20) HB20.out (Nat.le_refl _) HB20.out.size (by (try simp); omega) ?_; intro v3 u3 ho3 hbu3 hgu3; obtain ⟨hcx, hfx⟩ := gcell hgu3 hza20 hnx; obtain ⟨hcy, hfy⟩ := gcell hgu3 hz20 hny; have hzu : wr.heap.size < u3.heap.size := Nat.lt_of_lt_of_le hz20 hgu3.size; have hzv : w.heap.size < u3.heap.size := Nat.lt_of_lt_of_le hza20 hgu3.size)
          have HBU3 := hide hbu3
          have HOU3 := hide ho3
          go_wp2_with fail
          refine (Calls.mono (rhides_any x y _) ?_); rintro e w21 ⟨rfl, hg21⟩; obtain ⟨hc21, hf21⟩ := bcell hg21
          have HB21 := hide (below_step HBU3.out hg21)
          have hzw21 : wr.heap.size < w21.heap.size := by have := hg21.size; omega
          go_wp2_with (at_builtin; refine wpList_append_item rfl (.tmp 46) (.tmp 48) rfl _ _ _ _ _ _ (N ++ [x]) y rfl rfl rfl (Ow.below HOU3.out hg21) HB21.out (Nat.le_refl _) HB21.out.size (by (try simp); omega) ?_; intro v4 u4 ho4 hbu4 hgu4)
          have HBU4 := hide hbu4
          have HOU4 := hide ho4
          go_wp2_with fail
          go_roundw
          case rel => exact ⟨k + 1, true, N ++ [x] ++ [y], by go_num, rfl, by omega, by (try simp); omega, HT.out, HOU4.out, HBU4.out⟩
          case measure => simp [intOf]; omega
        have c4' : ltB x y = false := by simpa using c4
        clear c4
        have c4 := c4'
        clear c4'
        by_cases c5 : hidesB x y = true
        case pos =>
          have hT : optApp (N) (refRest x false (L.drop (k + 1))) = refRest x false L := by have := H4.out c1' c2'; simpa [c4, c5] using this
          have HT := hide hT
          clear hT
          go_wp2_with fail
          refine (Calls.mono (rhides_any y x _) ?_); rintro e w22 ⟨rfl, hg22⟩; obtain ⟨hc22, hf22⟩ := bcell hg22
          have HB22 := hide (below_step (below_alloc HB.out _) hg22)
          have hz22 : wr.heap.size < w22.heap.size := by have := hg22.size; (try simp at this); omega
          have hza22 : w.heap.size < w22.heap.size := by omega
          have hzb22 : bl < w22.heap.size := by omega
          go_wp2_with fail
          refine (Calls.mono (rsame_any x y _) ?_); rintro e w23 ⟨rfl, hg23⟩; obtain ⟨hc23, hf23⟩ := bcell hg23
          have HB23 := hide (below_step HB22.out hg23)
          have hz23 : wr.heap.size < w23.heap.size := by have := hg23.size; (try simp at this); omega
          have hza23 : w.heap.size < w23.heap.size := by omega
          have hzb23 : bl < w23.heap.size := by omega
          go_wp2_with fail
          refine (Calls.mono (rless_any x y _) ?_); rintro e w24 ⟨rfl, hg24⟩; obtain ⟨hc24, hf24⟩ := bcell hg24
          have HB24 := hide (below_step HB23.out hg24)
          have hz24 : wr.heap.size < w24.heap.size := by have := hg24.size; (try simp at this); omega
          have hza24 : w.heap.size < w24.heap.size := by omega
          have hzb24 : bl < w24.heap.size := by omega
          go_wp2_with fail
          refine (Calls.mono (rhides_any x y _) ?_); rintro e w25 ⟨rfl, hg25⟩; obtain ⟨hc25, hf25⟩ := bcell hg25
          have HB25 := hide (below_step HB24.out hg25)
          have hz25 : wr.heap.size < w25.heap.size := by have := hg25.size; (try simp at this); omega
          have hza25 : w.heap.size < w25.heap.size := by omega
          have hzb25 : bl < w25.heap.size := by omega
          go_wp2_with fail
          go_roundw
          case rel => exact ⟨k + 1, false, N, by go_num, rfl, by omega, by (try simp); omega, HT.out, (Ow.below (Ow.below (Ow.below (Ow.below (OwnL.alloc HO.out _) hg22) hg23) hg24) hg25), HB25.out⟩
          case measure => simp [intOf]; omega
        have c5' : hidesB x y = false := by simpa using c5
        clear c5
        have c5 := c5'
        clear c5'
        have hT : optApp (N ++ [y]) (refRest x false (L.drop (k + 1))) = refRest x false L := by have := H4.out c1' c2'; simpa [c4, c5] using this
        have HT := hide hT
        clear hT
        go_wp2_with fail
        refine (Calls.mono (rhides_any y x _) ?_); rintro e w26 ⟨rfl, hg26⟩; obtain ⟨hc26, hf26⟩ := bcell hg26
        have HB26 := hide (below_step (below_alloc HB.out _) hg26)
        have hz26 : wr.heap.size < w26.heap.size := by have := hg26.size; (try simp at this); omega
        have hza26 : w.heap.size < w26.heap.size := by omega
        have hzb26 : bl < w26.heap.size := by omega
        go_wp2_with fail
        refine (Calls.mono (rsame_any x y _) ?_); rintro e w27 ⟨rfl, hg27⟩; obtain ⟨hc27, hf27⟩ := bcell hg27
        have HB27 := hide (below_step HB26.out hg27)
        have hz27 : wr.heap.size < w27.heap.size := by have := hg27.size; (try simp at this); omega
        have hza27 : w.heap.size < w27.heap.size := by omega
        have hzb27 : bl < w27.heap.size := by omega
        go_wp2_with fail
        refine (Calls.mono (rless_any x y _) ?_); rintro e w28 ⟨rfl, hg28⟩; obtain ⟨hc28, hf28⟩ := bcell hg28
        have HB28 := hide (below_step HB27.out hg28)
        have hz28 : wr.heap.size < w28.heap.size := by have := hg28.size; (try simp at this); omega
        have hza28 : w.heap.size < w28.heap.size := by omega
        have hzb28 : bl < w28.heap.size := by omega
        go_wp2_with fail
        refine (Calls.mono (rhides_any x y _) ?_); rintro e w29 ⟨rfl, hg29⟩; obtain ⟨hc29, hf29⟩ := bcell hg29
        have HB29 := hide (below_step HB28.out hg29)
        have hz29 : wr.heap.size < w29.heap.size := by have := hg29.size; (try simp at this); omega
        have hza29 : w.heap.size < w29.heap.size := by omega
        have hzb29 : bl < w29.heap.size := by omega
        go_wp2_with (at_builtin; refine wpList_append_item rfl (.tmp 46) (.tmp 48) rfl _ _ _ _ _ _ (N) y rfl rfl rfl (Ow.below (Ow.below (Ow.below (Ow.below (OwnL.alloc HO.out _) hg26) hg27) hg28) hg29) HB29.out (Nat.le_refl _) HB29.out.size (by (try simp); omega) ?_; intro v5 u5 ho5 hbu5 hgu5)
        have HBU5 := hide hbu5
        have HOU5 := hide ho5
        go_wp2_with fail
        go_roundw
        case rel => exact ⟨k + 1, false, N ++ [y], by go_num, rfl, by omega, by (try simp); omega, HT.out, HOU5.out, HBU5.out⟩
        case measure => simp [intOf]; omega
    · have HT := hide (rest_end (by omega) HE.out)
      cases b
      case true =>
        go_wp2_with fail
        go_ret
        refine ⟨_, rfl, ?_, HW.out, .inr (fun g hg => ⟨Nat.le_trans (by simp) (OwnL.lt HO.out g hg).1, (OwnL.lt HO.out g hg).2⟩)⟩
        unfold refAdd; rw [HT.out]; simpa using HO.out.sl
      case false =>
        go_wp2_with (at_builtin; refine wpList_append_item rfl (.tmp 52) (.tmp 54) rfl _ _ _ _ _ _ (N) x rfl rfl rfl HO.out HB.out (Nat.le_refl _) HB.out.size (by (try simp); omega) ?_; intro v6 u6 ho6 hbu6 hgu6)
        have HBU6 := hide hbu6
        have HOU6 := hide ho6
        go_wp2_with fail
        go_ret
        refine ⟨_, rfl, ?_, ((Below.refl _ _).alloc (Nat.le_refl _) _).trans (HBU6.out.mono (by simp)), .inr (fun g hg => ⟨Nat.le_trans (by simp) (OwnL.lt HOU6.out g hg).1, (OwnL.lt HOU6.out g hg).2⟩)⟩
        unfold refAdd; rw [HT.out]; simpa using HOU6.out.sl
theorem radd_al {v : Value} {L : List It} {w : World} (h : Sl w v L) (x : It) (hn : L.length ≤ 1099511627776) : Calls Tryz.prog 47 #[v, x.val] w (RetAl v (refAdd L x) w) := by
  obtain ⟨A, c, rfl, hL, h1, h2⟩ := h
  exact radd_al_any A c L x w hL h1 h2 hn
set_option maxHeartbeats 3200000 in
theorem rof_al_any (A : Option Addr) (c : Nat) (L : List It) (w : World) (hL : ItemsAt w A L) (hn : L.length ≤ 274877906944) :
    Calls Tryz.prog 46 #[.slice A L.length c] w (RetAl (.slice none 0 0) (ofL L) w) := by
  have HL := hide hL
  clear hL
  go_enter Tryz.func46, Tryz.ntmps46
  go_wp2_with fail
  go_loopw [3, 4] (fun v i wr => ∃ k : Nat, i = .int .i64 k ∧ k ≤ L.length ∧ Below w.heap.size w wr ∧ Sl wr v ((L.take k).foldl addL []) ∧ Al w wr (.slice none 0 0) v) (fun _ i _ => L.length - (intOf i).toNat)
  case atStart => exact ⟨0, rfl, by omega, Below.refl _ _, Sl.nil_ _, .inl rfl⟩
  case round =>
    obtain ⟨k, rfl, hk, hb, hs, hal⟩ := hrel
    have HAL := hide hal
    clear hal
    have HB := hide hb
    have HS := hide hs
    clear hb hs
    by_cases hlt : k < L.length
    · obtain ⟨bl, off, rfl, hbb, y0, y1, y2, y3, y4⟩ := ItemsAt.item HL.out HB.out hlt
      have hbl : bl < wr.heap.size := Nat.lt_of_lt_of_le hbb HB.out.size
      have hNl := fold_len (L := L) k []
      have H1 := hide (fun h => fold_good hlt (a := []) h (foldl_state _ IsState.nil_))
      have H2 := hide (fun h => fold_bad hlt (a := []) h)
      generalize (L.take k).foldl addL [] = N at *
      generalize L[k] = y at *
      cases hg : goodB y
      · go_wp2_with fail
        refine (Calls.mono (rgood_any y _) ?_); rintro e w1 ⟨rfl, hg1⟩; obtain ⟨hc1, hf1⟩ := bcell hg1
        try rw [hg]
        go_wp2_with fail
        go_roundw
        case rel => exact ⟨k + 1, by go_num, by omega, below_step HB.out hg1, by rw [H2.out hg]; exact HS.out.below hg1, HAL.out.up hg1.size⟩
        case measure => simp [intOf]; omega
      · go_wp2_with fail
        refine (Calls.mono (rgood_any y _) ?_); rintro e w1 ⟨rfl, hg1⟩; obtain ⟨hc1, hf1⟩ := bcell hg1
        try rw [hg]
        go_wp2_with fail
        refine (Calls.mono (radd_al (HS.out.below hg1) y (by simp at hNl; omega)) ?_); rintro e w2 ⟨v2, rfl, hs2, hg2, hal2⟩
        go_wp2_with fail
        go_roundw
        case rel => exact ⟨k + 1, by go_num, by omega, below_step (below_step HB.out hg1) hg2, by rw [H1.out hg]; exact hs2, (HAL.out.up hg1.size).step (below_step HB.out hg1) hal2 hg2.size⟩
        case measure => simp [intOf]; omega
    · obtain rfl : k = L.length := by omega
      go_wp2_with fail
      go_ret
      have HS2 := HS.out
      rw [List.take_length] at HS2
      exact ⟨_, rfl, HS2, HB.out, HAL.out⟩
theorem rof_al {v : Value} {L : List It} {w : World} (h : Sl w v L) (hn : L.length ≤ 274877906944) : Calls Tryz.prog 46 #[v] w (RetAl (.slice none 0 0) (ofL L) w) := by
  obtain ⟨A, c, rfl, hL, h1, h2⟩ := h
  exact rof_al_any A c L w hL hn
set_option maxHeartbeats 3200000 in
theorem rjoin_al_any (va : Value) (La : List It) (A : Option Addr) (c : Nat) (L : List It) (w : World) (ha : Sl w va La) (hL : ItemsAt w A L) (hna : La.length ≤ 274877906944) (hn : L.length ≤ 274877906944) :
    Calls Tryz.prog 35 #[va, .slice A L.length c] w (RetAl va (joinL La L) w) := by
  have HL := hide hL
  have HA := hide ha
  clear hL ha
  have hjl := joinFrom_len La
  have hjs := joinFrom_state La
  have HJ : Hid (joinL La L = L.foldl addL (joinFrom La)) := hide (joinL_from La L)
  go_enter Tryz.func35, Tryz.ntmps35
  go_upto_if 10 with (go_at_call 45; refine (Calls.mono (rstate_sl HA.out (by omega)) ?_); rintro e w1 ⟨rfl, hg1⟩)
  have HG := hide hg1
  clear hg1
  go_cut [5] (fun ov W => Sl W ov (joinFrom La) ∧ Below w.heap.size w W ∧ Al w W va ov)
  case first =>
    cases hst : stateB La
    · have HF : Hid (joinFrom La = ofL La) := hide (by unfold joinFrom; rw [hst]; rfl)
      go_wp2_with fail
      refine (Calls.mono (rof_al (HA.out.below HG.out) hna) ?_); rintro e w2 ⟨v2, rfl, hs2, hg2, hal2⟩
      go_wp2_with fail
      go_meet
      exact ⟨by rw [HF.out]; exact hs2, below_step HG.out hg2, .inr (fun g hg => ⟨Nat.le_trans HG.out.size (hal2.fresh g hg).1, (hal2.fresh g hg).2⟩)⟩
    · have HF : Hid (joinFrom La = La) := hide (by unfold joinFrom; rw [hst]; rfl)
      go_wp2_with fail
      go_meet
      exact ⟨by rw [HF.out]; exact HA.out.below HG.out, HG.out, .inl rfl⟩
  case rest =>
    obtain ⟨hs0, hb0, hal0⟩ := hcut
    go_wp2_with fail
    go_loopw [5, 6] (fun v i wr => ∃ k : Nat, i = .int .i64 k ∧ k ≤ L.length ∧ Below w.heap.size w wr ∧ Sl wr v ((L.take k).foldl addL (joinFrom La)) ∧ Al w wr va v) (fun _ i _ => L.length - (intOf i).toNat)
    case atStart => exact ⟨0, rfl, by omega, hb0, hs0, hal0⟩
    case round =>
      obtain ⟨k, rfl, hk, hb, hs, hal⟩ := hrel
      have HAL := hide hal
      clear hal
      have HB := hide hb
      have HS := hide hs
      clear hb hs
      by_cases hlt : k < L.length
      · obtain ⟨bl, off, rfl, hbb, y0, y1, y2, y3, y4⟩ := ItemsAt.item HL.out HB.out hlt
        have hbl : bl < wr.heap.size := Nat.lt_of_lt_of_le hbb HB.out.size
        have hNl := fold_len (L := L) k (joinFrom La)
        have H1 := hide (fun h => fold_good hlt (a := joinFrom La) h (foldl_state _ hjs))
        have H2 := hide (fun h => fold_bad hlt (a := joinFrom La) h)
        generalize (L.take k).foldl addL (joinFrom La) = N at *
        generalize L[k] = y at *
        cases hg : goodB y
        · go_wp2_with fail
          refine (Calls.mono (rgood_any y _) ?_); rintro e w1 ⟨rfl, hg1⟩; obtain ⟨hc1, hf1⟩ := bcell hg1
          try rw [hg]
          go_wp2_with fail
          go_roundw
          case rel => exact ⟨k + 1, by go_num, by omega, below_step HB.out hg1, by rw [H2.out hg]; exact HS.out.below hg1, HAL.out.up hg1.size⟩
          case measure => simp [intOf]; omega
        · go_wp2_with fail
          refine (Calls.mono (rgood_any y _) ?_); rintro e w1 ⟨rfl, hg1⟩; obtain ⟨hc1, hf1⟩ := bcell hg1
          try rw [hg]
          go_wp2_with fail
          refine (Calls.mono (radd_al (HS.out.below hg1) y (by omega)) ?_); rintro e w2 ⟨v2, rfl, hs2, hg2, hal2⟩
          go_wp2_with fail
          go_roundw
          case rel => exact ⟨k + 1, by go_num, by omega, below_step (below_step HB.out hg1) hg2, by rw [H1.out hg]; exact hs2, (HAL.out.up hg1.size).step (below_step HB.out hg1) hal2 hg2.size⟩
          case measure => simp [intOf]; omega
      · obtain rfl : k = L.length := by omega
        go_wp2_with fail
        go_ret
        have HS2 := HS.out
        rw [List.take_length] at HS2
        exact ⟨_, rfl, by rw [HJ.out]; exact HS2, HB.out, HAL.out⟩
theorem rjoin_al {v u : Value} {L M : List It} {w : World} (h : Sl w v L) (k : Sl w u M) (hn : L.length ≤ 274877906944) (hm : M.length ≤ 274877906944) : Calls Tryz.prog 35 #[v, u] w (RetAl v (joinL L M) w) := by
  obtain ⟨A, c, rfl, hM, h1, h2⟩ := k
  exact rjoin_al_any v L A c M w h hM hn hm
end Go.Proofs.YtlabpgdimhbocaaGreat
