/- What the document fixes of states holds: the contract of clepsydralaw6.awake. No conditions. -/
import Derived.Test.YtbhfokfdijnhhaaPSt
import Derived.Test.YtbhfokfdijnhhaaPTom
namespace Go.Proofs.Ytbhfokfdijnhhaa
set_option linter.unusedVariables false
set_option linter.unusedSimpArgs false
open Go.ChangeShapes Go.WideShapes Go.ChangeAt Go.RowKit

theorem ptop_sl {v : Value} {L : List It} {w : World} (h : Sl w v L) (hn : L.length ≤ 4611686018427387904) : Calls Try.prog 19 #[v] w fun e w' => e = .returned (.int .u64 (topL L)) ∧ Below w.heap.size w w' := by
  obtain ⟨A, c, rfl, hL, h1, h2⟩ := h
  exact ptop_any A c L w hL hn

set_option maxHeartbeats 800000 in
theorem awake_any (w : World) : Calls Try.prog 12 #[] w fun e w' => e = .returned (.bool true) ∧ Below w.heap.size w w' := by
  have HO : Hid (ofL [⟨3, 2, 0, 4, 0⟩, ⟨3, 1, 0, 5, 0⟩] = [⟨3, 1, 0, 5, 0⟩]) := hide (by rfl)
  have HS : Hid (stateB [⟨3, 1, 0, 5, 0⟩] = true) := hide (by have := ofL_state [⟨3, 2, 0, 4, 0⟩, ⟨3, 1, 0, 5, 0⟩]; rw [HO.out] at this; exact stateB_true this)
  have HT : Hid (topL [⟨3, 1, 0, 5, 0⟩] = 5) := hide (by rfl)
  go_enter Try.func12, Try.ntmps12
  go_wp2_with fail
  refine (Calls.mono (pof_sl (L := [⟨3, 2, 0, 4, 0⟩, ⟨3, 1, 0, 5, 0⟩]) (new_sl w _ 2 _ _ rfl (by simp [maxLen]) rfl) (by simp)) ?_); rintro e w1 ⟨v1, rfl, ho1, hg1⟩
  rw [HO.out] at ho1
  have hs1 := ho1.sl
  have hb1 : Below w.heap.size w w1 := below_step (below_alloc (Below.refl _ _) _) hg1
  have HS1 := hide hs1
  have HB1 := hide hb1
  obtain ⟨A, c, rfl, hr, h1, h2⟩ := hs1
  obtain ⟨b, off, rfl, hbb, y0, y1, y2, y3, y4⟩ := ItemsAt.item hr (Below.refl _ _) (k := 0) (by simp)
  clear ho1 hg1 hr hb1
  simp only [Nat.zero_mul, Nat.add_zero, List.getElem_cons_zero] at y0 y1 y2 y3 y4
  go_wp2_with fail
  refine (Calls.mono (pok_sl HS1.out (by simp)) ?_); rintro e w2 ⟨rfl, hg2⟩
  rw [HS.out]
  go_wp2_with fail
  refine (Calls.mono (ptop_sl (HS1.out.below hg2) (by simp)) ?_); rintro e w3 ⟨rfl, hg3⟩
  rw [HT.out]
  go_wp2_with fail
  go_ret
  exact ⟨rfl, below_step (below_step HB1.out hg2) hg3⟩
end Go.Proofs.Ytbhfokfdijnhhaa
