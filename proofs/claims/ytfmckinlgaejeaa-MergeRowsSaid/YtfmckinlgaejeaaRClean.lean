/- The document's Clean: a contract. Condition: the list's length is at most 2^40. -/
import Derived.Test.YtfmckinlgaejeaaFil
import Derived.Test.YtfmckinlgaejeaaItem
import Derived.BigQuiet
namespace Go.Proofs.Ytfmckinlgaejeaa
set_option linter.unusedVariables false
set_option linter.unusedSimpArgs false
open Go.ChangeShapes Go.WideShapes Go.ChangeAt Go.RowKit

theorem hid_on {L : List It} {x : It} {k : Nat} (hk : k < L.length) : hidB (L.take (k + 1)) x = (hidB (L.take k) x || hidesB L[k] x) := by
  unfold hidB
  rw [List.take_succ_eq_append_getElem hk, List.any_append]
  simp
theorem hid_no {x : It} (hx : ¬ x.k = 2) (L : List It) : hidB L x = false := by
  unfold hidB
  rw [List.any_eq_false]
  intro t _
  rw [hidesB_false (by unfold It.hides; omega)]
  simp
set_option maxHeartbeats 3200000 in
set_option maxRecDepth 100000 in
theorem rclean_any (A : Option Addr) (c : Nat) (L : List It) (w : World) (hL : ItemsAt w A L) (hn : L.length ≤ 1099511627776) :
    Calls Try.prog 21 #[.slice A L.length c] w (RetOw (L.filter fun x => !hidB L x) w) := by
  have HL := hide hL
  clear hL
  go_enter Try.func21, Try.ntmps21
  go_wp2_with fail
  go_loopw [3, 4] (fun sv i wr => ∃ k : Nat, i = .int .i64 k ∧ k ≤ L.length ∧ Ow w.heap.size wr sv ((L.take k).filter fun x => !hidB L x) ∧ Below w.heap.size w wr) (fun _ i _ => L.length - (intOf i).toNat)
  case atStart => exact ⟨0, rfl, by omega, Ow.nil_ _ _, Below.refl _ _⟩
  case round =>
    obtain ⟨k, rfl, hk, hown, hb⟩ := hrel
    have HO := hide hown
    have HB := hide hb
    clear hown hb
    obtain ⟨wo, rfl⟩ : ∃ wo, wo = wr := ⟨_, rfl⟩
    by_cases hlt : k < L.length
    · have hltI : (k : Int) < (L.length : Int) := by omega
      have hk0 : (0 : Int) ≤ (k : Int) := by omega
      obtain ⟨bl, off, hAe, hbb, x0, x1, x2, x3, x4⟩ := ItemsAt.item HL.out HB.out hlt
      have HX : Hid (∀ W : World, Below w.heap.size w W → ItemAt W bl (off + k * 5) L[k]) := hide (fun W hW => by
        obtain ⟨b', o', e, _, h⟩ := ItemsAt.item HL.out hW hlt
        rw [hAe] at e
        obtain ⟨rfl, rfl⟩ : bl = b' ∧ off = o' := by injection e with h; injection h; exact ⟨by assumption, by assumption⟩
        exact h)
      subst hAe
      have HF1 := hide (filt_in (p := fun x => !hidB L x) hlt)
      have HF2 := hide (filt_out (p := fun x => !hidB L x) hlt)
      have hNl : ((L.take k).filter (fun x => !hidB L x)).length ≤ k := filt_len _ _ _
      have HHO : Hid (∀ (j : Nat) (hj : j < L.length), hidB (L.take (j + 1)) L[k] = (hidB (L.take j) L[k] || hidesB L[j] L[k])) := hide (fun j hj => hid_on hj)
      have HNO : Hid (¬ (L[k]).k = 2 → hidB L L[k] = false) := hide (fun hx => hid_no hx L)
      clear x0 x1 x2 x3 x4
      generalize L[k] = x at *
      generalize (L.take k).filter (fun x => !hidB L x) = N at *
      go_wp2_with fail
      go_loopw [5, 6] (fun h i wr => ∃ j : Nat, i = .int .i64 j ∧ j ≤ L.length ∧ h = .bool (hidB (L.take j) x) ∧ (¬ x.k = 2 → j = 0) ∧ Below wo.heap.size wo wr) (fun _ i _ => L.length - (intOf i).toNat)
      case atStart => exact ⟨0, rfl, by omega, rfl, fun _ => rfl, Below.refl _ _⟩
      case round =>
        obtain ⟨j, rfl, hj, rfl, hj0, hb1⟩ := hrel
        obtain ⟨wq, rfl⟩ : ∃ wq, wq = wr := ⟨_, rfl⟩
        have HB1 := hide hb1
        have HBW := hide (below_step HB.out hb1)
        have HJ0 := hide hj0
        obtain ⟨x0, x1, x2, x3, x4⟩ := HX.out _ HBW.out
        have hblq : bl < wq.heap.size := Nat.lt_of_lt_of_le hbb HBW.out.size
        clear hb1 hj0
        by_cases hgo : j < L.length ∧ x.k = 2
        · obtain ⟨hjl, hk2⟩ := hgo
          have hjI : (j : Int) < (L.length : Int) := by omega
          have hj00 : (0 : Int) ≤ (j : Int) := by omega
          have hjD : decide ((j : Int) < (L.length : Int)) = true := decide_eq_true hjI
          have hkb : (x.k == 2) = true := beq_iff_eq.2 hk2
          obtain ⟨bl2, off2, hAe, _, y0, y1, y2, y3, y4⟩ := ItemsAt.item HL.out HBW.out hjl
          obtain ⟨rfl, rfl⟩ : bl = bl2 ∧ off = off2 := by injection hAe with h; injection h; exact ⟨by assumption, by assumption⟩
          have hon := HHO.out j hjl
          have HCH := hide (fun W => rhides_any L[j] x W)
          have HK2 := hide hk2
          clear hAe hk2
          generalize L[j] = y at *
          have rx0 := fun s : Near wq => s.cell x0 hblq
          have rx1 := fun s : Near wq => s.cell x1 hblq
          have rx2 := fun s : Near wq => s.cell x2 hblq
          have rx3 := fun s : Near wq => s.cell x3 hblq
          have rx4 := fun s : Near wq => s.cell x4 hblq
          have ry0 := fun s : Near wq => s.cell y0 hblq
          have ry1 := fun s : Near wq => s.cell y1 hblq
          have ry2 := fun s : Near wq => s.cell y2 hblq
          have ry3 := fun s : Near wq => s.cell y3 hblq
          have ry4 := fun s : Near wq => s.cell y4 hblq
          cases hh : hidB (L.take j) x with
          | true =>
            have HON : Hid (hidB (L.take (j + 1)) x = true) := hide (by rw [hon, hh]; rfl)
            clear hon hh
            go_wp2_with fail
            refine wp_region_near (by kernel_rfl) (by kernel_rfl) ?_
            repeat (go_big_quiet_step (fail))
            refine wpQuiet_nil ?_
            intro _ hw'
            obtain ⟨s1, rfl⟩ := hw'
            clear rx0 rx1 rx2 rx3 rx4 ry0 ry1 ry2 ry3 ry4 x0 x1 x2 x3 x4 y0 y1 y2 y3 y4
            go_wp2_with fail
            go_roundw
            case rel => exact ⟨j + 1, by go_num, by omega, by rw [HON.out], fun h => absurd HK2.out h, below_step HB1.out s1.is⟩
            case measure => (simp [intOf] <;> omega)
          | false =>
            have HON : Hid (hidB (L.take (j + 1)) x = hidesB y x) := hide (by rw [hon, hh]; rfl)
            clear hon hh
            generalize hidesB y x = q at *
            go_wp2_with fail
            refine wp_region_near (by kernel_rfl) (by kernel_rfl) ?_
            repeat (go_big_quiet_step ((first | (go_at_call 37; exact near_of (HCH.out _)))))
            refine wpQuiet_nil ?_
            intro _ hw'
            obtain ⟨s1, rfl⟩ := hw'
            clear rx0 rx1 rx2 rx3 rx4 ry0 ry1 ry2 ry3 ry4 x0 x1 x2 x3 x4 y0 y1 y2 y3 y4
            go_wp2_with fail
            go_roundw
            case rel => exact ⟨j + 1, by go_num, by omega, by rw [HON.out], fun h => absurd HK2.out h, below_step HB1.out s1.is⟩
            case measure => (simp [intOf] <;> omega)
        · have HE : Hid (hidB (L.take j) x = hidB L x) := hide (by
            by_cases hk2 : x.k = 2
            · obtain rfl : j = L.length := by omega
              rw [List.take_length]
            · obtain rfl := HJ0.out hk2
              rw [HNO.out hk2]
              rfl)
          have HOQ := hide (HO.out.below HB1.out)
          have hg : (¬ j < L.length) ∨ (j < L.length ∧ (x.k == 2) = false) := by
            by_cases h1 : j < L.length
            · exact .inr ⟨h1, beq_eq_false_iff_ne.2 (fun h => hgo ⟨h1, h⟩)⟩
            · exact .inl h1
          rw [HE.out]
          have hj00 : (0 : Int) ≤ (j : Int) := by omega
          clear HE hgo
          cases hh : hidB L x with
          | true =>
            have HN := hide (HF2.out (by simp [hh]))
            clear hh
            rcases hg with hg1 | ⟨hg1, hg2⟩
            · have h1I : ¬ (j : Int) < (L.length : Int) := by omega
              have h1D : decide ((j : Int) < (L.length : Int)) = false := decide_eq_false h1I
              go_wp2_with fail
              go_roundw
              case rel => exact ⟨k + 1, by go_num, by omega, by rw [HN.out]; exact HOQ.out, HBW.out⟩
              case measure => (simp [intOf] <;> omega)
            · have h1I : (j : Int) < (L.length : Int) := by omega
              have h1D : decide ((j : Int) < (L.length : Int)) = true := decide_eq_true h1I
              go_wp2_with fail
              go_roundw
              case rel => exact ⟨k + 1, by go_num, by omega, by rw [HN.out]; exact HOQ.out, HBW.out⟩
              case measure => (simp [intOf] <;> omega)
          | false =>
            have HN := hide (HF1.out (by simp [hh]))
            clear hh
            rcases hg with hg1 | ⟨hg1, hg2⟩
            · have h1I : ¬ (j : Int) < (L.length : Int) := by omega
              have h1D : decide ((j : Int) < (L.length : Int)) = false := decide_eq_false h1I
              go_wp2_with (at_builtin; refine wpList_append_item rfl (.tmp 41) (.tmp 46) rfl _ _ _ _ _ _ N x rfl rfl rfl HOQ.out HBW.out (Nat.le_refl _) HBW.out.size (by omega) ?_; intro v1 u1 ho1 hbu1 hgu1)
              go_roundw
              case rel => exact ⟨k + 1, by go_num, by omega, by rw [HN.out]; exact ho1, hbu1⟩
              case measure => (simp [intOf] <;> omega)
            · have h1I : (j : Int) < (L.length : Int) := by omega
              have h1D : decide ((j : Int) < (L.length : Int)) = true := decide_eq_true h1I
              go_wp2_with (at_builtin; refine wpList_append_item rfl (.tmp 41) (.tmp 46) rfl _ _ _ _ _ _ N x rfl rfl rfl HOQ.out HBW.out (Nat.le_refl _) HBW.out.size (by omega) ?_; intro v1 u1 ho1 hbu1 hgu1)
              go_roundw
              case rel => exact ⟨k + 1, by go_num, by omega, by rw [HN.out]; exact ho1, hbu1⟩
              case measure => (simp [intOf] <;> omega)
    · obtain rfl : k = L.length := by omega
      have HF := hide (filt_all (fun x => !hidB L x) L)
      go_wp2_with fail
      go_ret
      exact ⟨_, rfl, by rw [← HF.out]; exact HO.out, HB.out⟩
end Go.Proofs.Ytfmckinlgaejeaa
