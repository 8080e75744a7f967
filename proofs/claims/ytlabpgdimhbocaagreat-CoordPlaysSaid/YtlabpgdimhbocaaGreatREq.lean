/- Two lists of items are one: the contract of clepsydraref5.Equal. Condition: the first list's length is at most 2^62. -/
import Derived.Test.YtlabpgdimhbocaaGreatFil
namespace Go.Proofs.YtlabpgdimhbocaaGreat
set_option linter.unusedVariables false
set_option linter.unusedSimpArgs false
open Go.ChangeShapes Go.WideShapes Go.ChangeAt Go.RowKit

set_option maxHeartbeats 1600000 in
theorem requal_any (A B : Option Addr) (c d : Nat) (L M : List It) (w : World) (hL : ItemsAt w A L) (hM : ItemsAt w B M) (hn : L.length ≤ 4611686018427387904) (hm : M.length ≤ 4611686018427387904) :
    Calls Tryz.prog 31 #[.slice A L.length c, .slice B M.length d] w fun e w' => e = .returned (.bool (eqL L M)) ∧ Below w.heap.size w w' := by
  have HL := hide hL
  have HM := hide hM
  clear hL hM
  by_cases hlen : L.length = M.length
  case neg =>
    have HE := hide (eqL_len hlen)
    have hb : ((L.length : Int) == (M.length : Int)) = false := beq_eq_false_iff_ne.2 (by omega)
    have hb2 : ((L.length : Int) != (M.length : Int)) = true := by rw [bne_iff_ne]; omega
    go_enter Tryz.func31, Tryz.ntmps31
    go_wp2_with fail
    go_ret
    exact ⟨by rw [HE.out]; rfl, Below.refl _ _⟩
  have hb : ((L.length : Int) == (M.length : Int)) = true := beq_iff_eq.2 (by omega)
  have hb2 : ((L.length : Int) != (M.length : Int)) = false := by simp [hlen]
  have HLen := hide hlen
  have hle : M.length ≤ L.length := by omega
  have hle2 : L.length ≤ M.length := by omega
  clear hlen
  go_enter Tryz.func31, Tryz.ntmps31
  go_wp2_with fail
  go_loopw [5] (fun i wr => ∃ k : Nat, i = .int .i64 k ∧ k ≤ L.length ∧ Below w.heap.size w wr ∧ L.take k = M.take k) (fun i _ => L.length - (intOf i).toNat)
  case atStart => exact ⟨0, rfl, by omega, Below.refl _ _, rfl⟩
  case round =>
    obtain ⟨k, rfl, hk, hb, ht⟩ := hrel
    have HT := hide ht
    clear ht
    by_cases hlt : k < L.length
    · obtain ⟨bl, off, rfl, hbb, y0, y1, y2, y3, y4⟩ := ItemsAt.item HL.out hb hlt
      obtain ⟨bl2, off2, rfl, hbb2, z0, z1, z2, z3, z4⟩ := ItemsAt.item HM.out hb (k := k) (by omega)
      have hl2 : k < M.length := by omega
      have H1 := hide (take_ne hlt hl2)
      have H2 := hide (take_on hlt hl2 HT.out)
      generalize L[k] = y at *
      generalize M[k] = z at *
      have hq := run_neq_item y z
      cases hyz : eqI y z
      all_goals
        rw [hyz] at hq
        go_wp2_with fail
        go_quiet (fail)
        go_wp2_with fail
      · go_ret
        exact ⟨by rw [H1.out hyz]; rfl, below_drewN hb _⟩
      · go_roundw
        case rel => exact ⟨k + 1, by go_num, by omega, below_drewN hb _, H2.out hyz⟩
        case measure => simp [intOf]; omega
    · have HE := hide (take_eq HLen.out (by omega) HT.out)
      go_wp2_with fail
      go_ret
      exact ⟨by rw [HE.out]; rfl, hb⟩
end Go.Proofs.YtlabpgdimhbocaaGreat
