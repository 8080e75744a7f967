/- What is of a list, as the document has it: the contracts of clepsydraref5.Series, Range, Upto, Purge. Condition: the list's length is at most 2^40. -/
import Derived.Test.YtlabpgdimhbocaaGreatFil
namespace Go.Proofs.YtlabpgdimhbocaaGreat
set_option linter.unusedVariables false
set_option linter.unusedSimpArgs false
open Go.ChangeShapes Go.WideShapes Go.ChangeAt Go.RowKit


set_option maxHeartbeats 1600000 in
theorem rseries_any (A : Option Addr) (c : Nat) (L : List It) (s : Int) (w : World) (hL : ItemsAt w A L) (hn : L.length ≤ 1099511627776) :
    Calls Tryz.prog 36 #[.slice A L.length c, .int .i64 s] w (RetOw (L.filter (serP s)) w) := by
  have HL := hide hL
  clear hL
  go_enter Tryz.func36, Tryz.ntmps36
  go_wp2_with fail
  go_loopw [5, 6] (fun sv i wr => ∃ k : Nat, i = .int .i64 k ∧ k ≤ L.length ∧ Ow w.heap.size wr sv ((L.take k).filter (serP s)) ∧ Below w.heap.size w wr) (fun _ i _ => L.length - (intOf i).toNat)
  case atStart => exact ⟨0, rfl, by omega, Ow.nil_ _ _, Below.refl _ _⟩
  case round =>
    obtain ⟨k, rfl, hk, hown, hb⟩ := hrel
    have HO := hide hown
    have HB := hide hb
    clear hown hb
    by_cases hlt : k < L.length
    · obtain ⟨bl, off, rfl, hbb, y0, y1, y2, y3, y4⟩ := ItemsAt.item HL.out HB.out hlt
      have HF1 := hide (filt_in (p := serP s) hlt)
      have HF2 := hide (filt_out (p := serP s) hlt)
      have hNl : ((L.take k).filter (serP s)).length ≤ k := filt_len _ _ _
      generalize L[k] = y at *
      generalize (L.take k).filter (serP s) = N at *
      by_cases hs : y.s = s
      case pos =>
        have bs : (y.s == s) = true := beq_iff_eq.2 hs
        have HN := hide (HF1.out (decide_eq_true (by omega)))
        (try clear hs); (try clear hk2); (try clear hk1)
        go_wp2_with (at_builtin; refine wpList_append_item rfl (.tmp 20) (.tmp 25) rfl _ _ _ _ _ _ N y rfl rfl rfl HO.out HB.out (Nat.le_refl _) HB.out.size (by omega) ?_; intro v1 u1 ho1 hbu1 hgu1)
        go_roundw
        case rel => exact ⟨k + 1, by go_num, by omega, by rw [HN.out]; exact ho1, hbu1⟩
        case measure => simp [intOf]; omega
      have bs : (y.s == s) = false := beq_eq_false_iff_ne.2 hs
      have HN := hide (HF2.out (decide_eq_false (by omega)))
      (try clear hs); (try clear hk2); (try clear hk1)
      go_wp2_with fail
      go_roundw
      case rel => exact ⟨k + 1, by go_num, by omega, by rw [HN.out]; exact HO.out, HB.out⟩
      case measure => simp [intOf]; omega
    · obtain rfl : k = L.length := by omega
      have HF := hide (filt_all (serP s) L)
      go_wp2_with fail
      go_ret
      exact ⟨_, rfl, by rw [← HF.out]; exact HO.out, HB.out⟩

end Go.Proofs.YtlabpgdimhbocaaGreat
