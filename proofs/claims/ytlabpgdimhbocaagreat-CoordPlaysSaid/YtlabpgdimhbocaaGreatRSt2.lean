/- The document's states: contracts of clepsydraref5.State, Join, Add. Condition: lists of at most 2^38 items. -/
import Derived.Test.YtlabpgdimhbocaaGreatRSt
import Derived.Test.YtlabpgdimhbocaaGreatROf
namespace Go.Proofs.YtlabpgdimhbocaaGreat
set_option linter.unusedVariables false
set_option linter.unusedSimpArgs false
open Go.ChangeShapes Go.WideShapes Go.ChangeAt Go.RowKit

theorem state_no {L : List It} {i k : Nat} (hi : i < L.length) (hk : k < L.length) (h : hidesB L[i] L[k] = true) : stateB L = false :=
  stateB_false fun hs => hs.2.2 L[i] (List.getElem_mem _) L[k] (List.getElem_mem _) (by simpa only [hidesB, decide_eq_true_eq] using h)
def NoHide (L : List It) (i : Nat) : Prop := ∀ a (_ : a < i) (ha : a < L.length), ∀ x ∈ L, hidesB L[a] x = false
def NoHid1 (L : List It) (t : It) (k : Nat) : Prop := ∀ b (_ : b < k) (hb : b < L.length), hidesB t L[b] = false
theorem noHide_on {L : List It} {i : Nat} (hi : i < L.length) (h : NoHide L i) (h1 : ∀ x ∈ L, hidesB L[i] x = false) : NoHide L (i + 1) := fun a ha ha' x hx => by
  by_cases e : a = i
  · subst e; exact h1 x hx
  · exact h a (by omega) ha' x hx
theorem noHid1_all {L : List It} {t : It} {k : Nat} (hk : L.length ≤ k) (h : NoHid1 L t k) : ∀ x ∈ L, hidesB t x = false := fun x hx => by
  obtain ⟨b, hb, rfl⟩ := List.getElem_of_mem hx
  exact h b (by omega) hb
theorem noHid1_on {L : List It} {t : It} {k : Nat} (hk : k < L.length) (h : NoHid1 L t k) (h1 : hidesB t L[k] = false) : NoHid1 L t (k + 1) := fun b hb hb' => by
  by_cases e : b = k
  · subst e; exact h1
  · exact h b (by omega) hb'
theorem noHid_kind {L : List It} {t : It} (h : ¬ t.k = 1) : ∀ x ∈ L, hidesB t x = false := fun x _ => hidesB_false (by unfold It.hides; omega)
theorem state_ris {L : List It} {i : Nat} (hi : L.length ≤ i) (h : NoHide L i) : stateB L = risB L := by
  cases e : risB L
  · refine stateB_false fun hs => ?_
    have := ris_iff.2 ⟨hs.1, hs.2.1⟩
    rw [e] at this; cases this
  · have := ris_iff.1 e
    refine stateB_true ⟨this.1, this.2, fun t ht x hx => ?_⟩
    obtain ⟨a, ha, rfl⟩ := List.getElem_of_mem ht
    have := h a (by omega) ha x hx
    simpa only [hidesB, decide_eq_false_iff_not] using this

set_option maxHeartbeats 3200000 in
set_option maxRecDepth 100000 in
theorem rstate_any (A : Option Addr) (c : Nat) (L : List It) (w : World) (hL : ItemsAt w A L) (hn : L.length ≤ 4611686018427387904) :
    Calls Tryz.prog 45 #[.slice A L.length c] w fun e w' => e = .returned (.bool (stateB L)) ∧ Below w.heap.size w w' := by
  have HL := hide hL
  clear hL
  go_enter Tryz.func45, Tryz.ntmps45
  go_wp2_with fail
  go_loopw [3] (fun i wr => ∃ k : Nat, i = .int .i64 k ∧ k ≤ L.length ∧ Below w.heap.size w wr ∧ NoHide L k) (fun i _ => L.length - (intOf i).toNat)
  case atStart => exact ⟨0, rfl, by omega, Below.refl _ _, fun a ha => absurd ha (by omega)⟩
  case round =>
    obtain ⟨i, rfl, hi, hb, hno⟩ := hrel
    have HB := hide hb
    clear hb
    obtain ⟨wo, rfl⟩ : ∃ wo : World, wo = wr := ⟨_, rfl⟩
    by_cases hlt : i < L.length
    · obtain ⟨bl, off, rfl, hbb, y0, y1, y2, y3, y4⟩ := ItemsAt.item HL.out HB.out hlt
      have hbl : bl < wo.heap.size := Nat.lt_of_lt_of_le hbb HB.out.size
      have H1 := hide (fun k hk => state_no (k := k) hlt hk)
      have H2 := hide (fun h => noHide_on hlt hno h)
      generalize L[i] = y at *
      by_cases hk1 : y.k = 1
      · have bk : (y.k == 1) = true := beq_iff_eq.2 hk1
        clear hk1
        go_wp2_with fail
        go_loopw [4] (fun j wr => ∃ k : Nat, j = .int .i64 k ∧ k ≤ L.length ∧ Below wo.heap.size wo wr ∧ NoHid1 L y k) (fun j _ => L.length - (intOf j).toNat)
        case atStart => exact ⟨0, rfl, by omega, Below.refl _ _, fun a ha => absurd ha (by omega)⟩
        case round =>
          obtain ⟨k, rfl, hk, hbq, hn1⟩ := hrel
          have HBQ := hide hbq
          have y0 := (hbq.cell (p := ⟨bl, _, none⟩) hbl).trans y0
          have y1 := (hbq.cell (p := ⟨bl, _, none⟩) hbl).trans y1
          have y2 := (hbq.cell (p := ⟨bl, _, none⟩) hbl).trans y2
          have y3 := (hbq.cell (p := ⟨bl, _, none⟩) hbl).trans y3
          have y4 := (hbq.cell (p := ⟨bl, _, none⟩) hbl).trans y4
          have hzq := hbq.size
          have hzl : bl < wr.heap.size := by omega
          clear hbq
          have hnc := near_cells wr
          by_cases hltk : k < L.length
          · obtain ⟨bl', off', hA, hbb', z0, z1, z2, z3, z4⟩ := ItemsAt.item HL.out (below_step HB.out HBQ.out) hltk
            injection hA with hA
            injection hA with hA1 hA2
            subst hA1 hA2
            have H3 := hide (fun h => noHid1_on hltk hn1 h)
            have H4 := hide (H1.out k hltk)
            generalize L[k] = z at *
            cases hh : hidesB y z
            all_goals
              go_wp2_with fail
              refine wp_region_near (by kernel_rfl) (by kernel_rfl) ?_
              repeat (go_big_quiet_step ((go_at_call 55; exact near_of (rhides_any y z _))))
              refine wpQuiet_nil ?_
              intro _ hw'
              obtain ⟨s1, rfl⟩ := hw'
              rw [hh]
              go_wp2_with fail
            · go_roundw
              case rel => exact ⟨k + 1, by go_num, by omega, below_step HBQ.out s1.is, H3.out hh⟩
              case measure => simp [intOf]; omega
            · go_ret
              exact ⟨by rw [H4.out hh]; rfl, below_step (below_step HB.out HBQ.out) s1.is⟩
          · have H3 := hide (H2.out (noHid1_all (by omega) hn1))
            go_wp2_with fail
            go_roundw
            case rel => exact ⟨i + 1, by go_num, by omega, below_step HB.out HBQ.out, H3.out⟩
            case measure => simp [intOf]; omega
      · have bk : (y.k == 1) = false := beq_eq_false_iff_ne.2 hk1
        have H3 := hide (H2.out (noHid_kind hk1))
        go_wp2_with fail
        go_loopw [4] (fun j wr => j = .int .i64 (0 : Nat) ∧ wr = wo) (fun _ _ => 0)
        case atStart => exact ⟨rfl, rfl⟩
        case round =>
          obtain ⟨rfl, rfl⟩ := hrel
          go_wp2_with fail
          go_roundw
          case rel => exact ⟨i + 1, by go_num, by omega, HB.out, H3.out⟩
          case measure => simp [intOf]; omega
    · have HE := hide (state_ris (by omega) hno)
      go_wp2_with fail
      refine (Calls.mono (rrises_any A c L _ (HL.out.below HB.out) hn) ?_); rintro e w1 ⟨rfl, hg1⟩
      go_wp2_with fail
      go_ret
      exact ⟨by rw [HE.out]; rfl, below_step HB.out hg1⟩

theorem rstate_sl {v : Value} {L : List It} {w : World} (h : Sl w v L) (hn : L.length ≤ 4611686018427387904) : Calls Tryz.prog 45 #[v] w fun e w' => e = .returned (.bool (stateB L)) ∧ Below w.heap.size w w' := by
  obtain ⟨A, c, rfl, hL, h1, h2⟩ := h
  exact rstate_any A c L w hL hn
theorem rof_sl {v : Value} {L : List It} {w : World} (h : Sl w v L) (hn : L.length ≤ 274877906944) : Calls Tryz.prog 46 #[v] w (RetSl (ofL L) w) := by
  obtain ⟨A, c, rfl, hL, h1, h2⟩ := h
  exact rof_any A c L w hL hn

noncomputable def joinFrom (a : List It) : List It := if stateB a then a else ofL a
theorem joinL_from (a b : List It) : joinL a b = b.foldl addL (joinFrom a) := by unfold joinL joinFrom; rfl
theorem joinFrom_state (a : List It) : IsState (joinFrom a) := by
  unfold joinFrom
  split
  · exact stateB_iff.1 (by assumption)
  · exact ofL_state a
theorem joinFrom_len (a : List It) : (joinFrom a).length ≤ a.length := by
  unfold joinFrom
  split
  · omega
  · exact ofL_len a

set_option maxHeartbeats 3200000 in
theorem rjoin_any (va : Value) (La : List It) (A : Option Addr) (c : Nat) (L : List It) (w : World) (ha : Sl w va La) (hL : ItemsAt w A L) (hna : La.length ≤ 274877906944) (hn : L.length ≤ 274877906944) :
    Calls Tryz.prog 35 #[va, .slice A L.length c] w (RetSl (joinL La L) w) := by
  have HL := hide hL
  have HA := hide ha
  clear hL ha
  have hjl := joinFrom_len La
  have hjs := joinFrom_state La
  have HJ : Hid (joinL La L = L.foldl addL (joinFrom La)) := hide (joinL_from La L)
  go_enter Tryz.func35, Tryz.ntmps35
  go_upto_if 10 with (go_at_call 45; refine (Calls.mono (rstate_sl HA.out (by omega)) ?_); rintro e w1 ⟨rfl, hg1⟩)
  have HG := hide hg1
  clear hg1
  go_cut [5] (fun ov W => Sl W ov (joinFrom La) ∧ Below w.heap.size w W)
  case first =>
    cases hst : stateB La
    · have HF : Hid (joinFrom La = ofL La) := hide (by unfold joinFrom; rw [hst]; rfl)
      go_wp2_with fail
      refine (Calls.mono (rof_sl (HA.out.below HG.out) hna) ?_); rintro e w2 ⟨v2, rfl, hs2, hg2⟩
      go_wp2_with fail
      go_meet
      exact ⟨by rw [HF.out]; exact hs2, below_step HG.out hg2⟩
    · have HF : Hid (joinFrom La = La) := hide (by unfold joinFrom; rw [hst]; rfl)
      go_wp2_with fail
      go_meet
      exact ⟨by rw [HF.out]; exact HA.out.below HG.out, HG.out⟩
  case rest =>
    obtain ⟨hs0, hb0⟩ := hcut
    go_wp2_with fail
    go_loopw [5, 6] (fun v i wr => ∃ k : Nat, i = .int .i64 k ∧ k ≤ L.length ∧ Below w.heap.size w wr ∧ Sl wr v ((L.take k).foldl addL (joinFrom La))) (fun _ i _ => L.length - (intOf i).toNat)
    case atStart => exact ⟨0, rfl, by omega, hb0, hs0⟩
    case round =>
      obtain ⟨k, rfl, hk, hb, hs⟩ := hrel
      have HB := hide hb
      have HS := hide hs
      clear hb hs
      by_cases hlt : k < L.length
      · obtain ⟨bl, off, rfl, hbb, y0, y1, y2, y3, y4⟩ := ItemsAt.item HL.out HB.out hlt
        have hbl : bl < wr.heap.size := Nat.lt_of_lt_of_le hbb HB.out.size
        have hNl := fold_len (L := L) k (joinFrom La)
        have H1 := hide (fun h => fold_good hlt (a := joinFrom La) h (foldl_state _ hjs))
        have H2 := hide (fun h => fold_bad hlt (a := joinFrom La) h)
        generalize (L.take k).foldl addL (joinFrom La) = N at *
        generalize L[k] = y at *
        cases hg : goodB y
        · go_wp2_with fail
          refine (Calls.mono (rgood_any y _) ?_); rintro e w1 ⟨rfl, hg1⟩; obtain ⟨hc1, hf1⟩ := bcell hg1
          try rw [hg]
          go_wp2_with fail
          go_roundw
          case rel => exact ⟨k + 1, by go_num, by omega, below_step HB.out hg1, by rw [H2.out hg]; exact HS.out.below hg1⟩
          case measure => simp [intOf]; omega
        · go_wp2_with fail
          refine (Calls.mono (rgood_any y _) ?_); rintro e w1 ⟨rfl, hg1⟩; obtain ⟨hc1, hf1⟩ := bcell hg1
          try rw [hg]
          go_wp2_with fail
          refine (Calls.mono (radd_sl (HS.out.below hg1) y (by omega)) ?_); rintro e w2 ⟨v2, rfl, hs2, hg2⟩
          go_wp2_with fail
          go_roundw
          case rel => exact ⟨k + 1, by go_num, by omega, below_step (below_step HB.out hg1) hg2, by rw [H1.out hg]; exact hs2⟩
          case measure => simp [intOf]; omega
      · obtain rfl : k = L.length := by omega
        go_wp2_with fail
        go_ret
        have HS2 := HS.out
        rw [List.take_length] at HS2
        exact ⟨_, rfl, by rw [HJ.out]; exact HS2, HB.out⟩
theorem rjoin_sl {v u : Value} {L M : List It} {w : World} (h : Sl w v L) (k : Sl w u M) (hn : L.length ≤ 274877906944) (hm : M.length ≤ 274877906944) : Calls Tryz.prog 35 #[v, u] w (RetSl (joinL L M) w) := by
  obtain ⟨A, c, rfl, hM, h1, h2⟩ := k
  exact rjoin_any v L A c M w h hM hn hm

end Go.Proofs.YtlabpgdimhbocaaGreat
