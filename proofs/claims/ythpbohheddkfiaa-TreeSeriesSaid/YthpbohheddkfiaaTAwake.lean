/- clepsydralaw19.awake: a contract. No conditions. -/
import Derived.Test.YthpbohheddkfiaaTDif2
namespace Go.Proofs.Ythpbohheddkfiaa
set_option linter.unusedVariables false
set_option linter.unusedSimpArgs false
open Go.ChangeShapes Go.WideShapes Go.ChangeAt Go.RowKit
/-- The one item of it. -/
def x3 : It := ⟨3, 2, 0, 1, 0⟩
theorem n0 : leafT [] = 12638153115695167455 := by kernel_rfl
theorem p0 : leafT [x3] = 7011317744763306022 := by kernel_rfl
theorem n1 : mixL 12638153115695167455 12638153115695167455 = 3714635554297328461 := by kernel_rfl
theorem n2 : mixL 3714635554297328461 3714635554297328461 = 5571664372517844117 := by kernel_rfl
theorem n3 : mixL 5571664372517844117 5571664372517844117 = 11897373564176413825 := by kernel_rfl
theorem n4 : mixL 11897373564176413825 11897373564176413825 = 372805619329271989 := by kernel_rfl
theorem n5 : mixL 372805619329271989 372805619329271989 = 971697331183998077 := by kernel_rfl
theorem n6 : mixL 971697331183998077 971697331183998077 = 6937886843973623477 := by kernel_rfl
theorem n7 : mixL 6937886843973623477 6937886843973623477 = 10737350042400121109 := by kernel_rfl
theorem n8 : mixL 10737350042400121109 10737350042400121109 = 5174021340271085437 := by kernel_rfl
theorem p1 : mixL 12638153115695167455 7011317744763306022 = 4640141968596532326 := by kernel_rfl
theorem p2 : mixL 3714635554297328461 4640141968596532326 = 16062112038749428851 := by kernel_rfl
theorem p3 : mixL 16062112038749428851 5571664372517844117 = 16324314922199929120 := by kernel_rfl
theorem p4 : mixL 16324314922199929120 11897373564176413825 = 13606759512062064940 := by kernel_rfl
theorem p5 : mixL 13606759512062064940 372805619329271989 = 11996825957020935258 := by kernel_rfl
theorem p6 : mixL 11996825957020935258 971697331183998077 = 4811987149534979287 := by kernel_rfl
theorem p7 : mixL 4811987149534979287 6937886843973623477 = 11721941092755888237 := by kernel_rfl
theorem p8 : mixL 11721941092755888237 10737350042400121109 = 11794178780255627401 := by kernel_rfl
theorem f0 (i : Nat) : nodeT (serL []) 0 i = 12638153115695167455 := n0
theorem f1 (i : Nat) : nodeT (serL []) 1 i = 3714635554297328461 := by
  show mixL (nodeT (serL []) 0 (2 * i)) (nodeT (serL []) 0 (2 * i + 1)) = _
  rw [f0, f0, n1]
theorem f2 (i : Nat) : nodeT (serL []) 2 i = 5571664372517844117 := by
  show mixL (nodeT (serL []) 1 (2 * i)) (nodeT (serL []) 1 (2 * i + 1)) = _
  rw [f1, f1, n2]
theorem f3 (i : Nat) : nodeT (serL []) 3 i = 11897373564176413825 := by
  show mixL (nodeT (serL []) 2 (2 * i)) (nodeT (serL []) 2 (2 * i + 1)) = _
  rw [f2, f2, n3]
theorem f4 (i : Nat) : nodeT (serL []) 4 i = 372805619329271989 := by
  show mixL (nodeT (serL []) 3 (2 * i)) (nodeT (serL []) 3 (2 * i + 1)) = _
  rw [f3, f3, n4]
theorem f5 (i : Nat) : nodeT (serL []) 5 i = 971697331183998077 := by
  show mixL (nodeT (serL []) 4 (2 * i)) (nodeT (serL []) 4 (2 * i + 1)) = _
  rw [f4, f4, n5]
theorem f6 (i : Nat) : nodeT (serL []) 6 i = 6937886843973623477 := by
  show mixL (nodeT (serL []) 5 (2 * i)) (nodeT (serL []) 5 (2 * i + 1)) = _
  rw [f5, f5, n6]
theorem f7 (i : Nat) : nodeT (serL []) 7 i = 10737350042400121109 := by
  show mixL (nodeT (serL []) 6 (2 * i)) (nodeT (serL []) 6 (2 * i + 1)) = _
  rw [f6, f6, n7]
theorem f8 (i : Nat) : nodeT (serL []) 8 i = 5174021340271085437 := by
  show mixL (nodeT (serL []) 7 (2 * i)) (nodeT (serL []) 7 (2 * i + 1)) = _
  rw [f7, f7, n8]
theorem ser3 {i : Nat} (h : i ≠ 3) : serL [x3] i = [] := by
  unfold serL
  have h1 : decide ((3 : Int) = (i : Int)) = false := decide_eq_false (fun e => h (by omega))
  show List.filter (fun x => decide (x.s = (i : Int))) [x3] = []
  rw [List.filter_cons, show decide (x3.s = (i : Int)) = false from h1]
  rfl
theorem g0 {i : Nat} (h : i ≠ 3) : nodeT (serL [x3]) 0 i = 12638153115695167455 := by
  show leafT (serL [x3] i) = _
  rw [ser3 h, n0]
theorem q0 : nodeT (serL [x3]) 0 3 = 7011317744763306022 := p0
theorem g1 {i : Nat} (h : i ≠ 1) : nodeT (serL [x3]) 1 i = 3714635554297328461 := by
  show mixL (nodeT (serL [x3]) 0 (2 * i)) (nodeT (serL [x3]) 0 (2 * i + 1)) = _
  rw [g0 (by omega), g0 (by omega), n1]
theorem q1 : nodeT (serL [x3]) 1 1 = 4640141968596532326 := by
  show mixL (nodeT (serL [x3]) 0 2) (nodeT (serL [x3]) 0 3) = _
  rw [g0 (by omega), q0, p1]
theorem g2 {i : Nat} (h : i ≠ 0) : nodeT (serL [x3]) 2 i = 5571664372517844117 := by
  show mixL (nodeT (serL [x3]) 1 (2 * i)) (nodeT (serL [x3]) 1 (2 * i + 1)) = _
  rw [g1 (by omega), g1 (by omega), n2]
theorem q2 : nodeT (serL [x3]) 2 0 = 16062112038749428851 := by
  show mixL (nodeT (serL [x3]) 1 0) (nodeT (serL [x3]) 1 1) = _
  rw [g1 (by omega), q1, p2]
theorem g3 {i : Nat} (h : i ≠ 0) : nodeT (serL [x3]) 3 i = 11897373564176413825 := by
  show mixL (nodeT (serL [x3]) 2 (2 * i)) (nodeT (serL [x3]) 2 (2 * i + 1)) = _
  rw [g2 (by omega), g2 (by omega), n3]
theorem q3 : nodeT (serL [x3]) 3 0 = 16324314922199929120 := by
  show mixL (nodeT (serL [x3]) 2 0) (nodeT (serL [x3]) 2 1) = _
  rw [q2, g2 (by omega), p3]
theorem g4 {i : Nat} (h : i ≠ 0) : nodeT (serL [x3]) 4 i = 372805619329271989 := by
  show mixL (nodeT (serL [x3]) 3 (2 * i)) (nodeT (serL [x3]) 3 (2 * i + 1)) = _
  rw [g3 (by omega), g3 (by omega), n4]
theorem q4 : nodeT (serL [x3]) 4 0 = 13606759512062064940 := by
  show mixL (nodeT (serL [x3]) 3 0) (nodeT (serL [x3]) 3 1) = _
  rw [q3, g3 (by omega), p4]
theorem g5 {i : Nat} (h : i ≠ 0) : nodeT (serL [x3]) 5 i = 971697331183998077 := by
  show mixL (nodeT (serL [x3]) 4 (2 * i)) (nodeT (serL [x3]) 4 (2 * i + 1)) = _
  rw [g4 (by omega), g4 (by omega), n5]
theorem q5 : nodeT (serL [x3]) 5 0 = 11996825957020935258 := by
  show mixL (nodeT (serL [x3]) 4 0) (nodeT (serL [x3]) 4 1) = _
  rw [q4, g4 (by omega), p5]
theorem g6 {i : Nat} (h : i ≠ 0) : nodeT (serL [x3]) 6 i = 6937886843973623477 := by
  show mixL (nodeT (serL [x3]) 5 (2 * i)) (nodeT (serL [x3]) 5 (2 * i + 1)) = _
  rw [g5 (by omega), g5 (by omega), n6]
theorem q6 : nodeT (serL [x3]) 6 0 = 4811987149534979287 := by
  show mixL (nodeT (serL [x3]) 5 0) (nodeT (serL [x3]) 5 1) = _
  rw [q5, g5 (by omega), p6]
theorem g7 {i : Nat} (h : i ≠ 0) : nodeT (serL [x3]) 7 i = 10737350042400121109 := by
  show mixL (nodeT (serL [x3]) 6 (2 * i)) (nodeT (serL [x3]) 6 (2 * i + 1)) = _
  rw [g6 (by omega), g6 (by omega), n7]
theorem q7 : nodeT (serL [x3]) 7 0 = 11721941092755888237 := by
  show mixL (nodeT (serL [x3]) 6 0) (nodeT (serL [x3]) 6 1) = _
  rw [q6, g6 (by omega), p7]
theorem g8 {i : Nat} (h : i ≠ 0) : nodeT (serL [x3]) 8 i = 5174021340271085437 := by
  show mixL (nodeT (serL [x3]) 7 (2 * i)) (nodeT (serL [x3]) 7 (2 * i + 1)) = _
  rw [g7 (by omega), g7 (by omega), n8]
theorem q8 : nodeT (serL [x3]) 8 0 = 11794178780255627401 := by
  show mixL (nodeT (serL [x3]) 7 0) (nodeT (serL [x3]) 7 1) = _
  rw [q7, g7 (by omega), p8]
theorem same_is {a c : Nat} {F G : Nat → List It} {l i : Nat} (h : nodeT F l i = nodeT G l i) : sameN (some a) (some c) F G l i = true := by simp [sameN, h]
theorem same_no {a c : Nat} {F G : Nat → List It} {l i : Nat} (h : nodeT F l i ≠ nodeT G l i) : sameN (some a) (some c) F G l i = false := by simp [sameN, h]
theorem dif_leaf {E : Nat → Nat → Bool} {i : Nat} (h : E 0 i = false) : difL E 0 i = [i] := by unfold difL; rw [h]; rfl
theorem dif_same {E : Nat → Nat → Bool} {k i : Nat} (h : E k i = true) : difL E k i = [] := by
  cases k <;> (unfold difL; rw [h]; rfl)
theorem dif_no {E : Nat → Nat → Bool} {k i : Nat} (h : E (k + 1) i = false) : difL E (k + 1) i = difL E k (2 * i) ++ difL E k (2 * i + 1) := by
  show (if E (k + 1) i then [] else _) = _
  rw [h]; rfl
theorem dif3 (a c : Nat) : difL (sameN (some a) (some c) (serL []) (serL [x3])) 8 0 = [3] := by
  rw [dif_no (same_no (by rw [f8, q8]; decide)), dif_same (k := 7) (i := 2 * 0 + 1) (same_is (by rw [f7, g7 (by omega)])), List.append_nil]
  show difL _ 7 0 = _
  rw [dif_no (same_no (by rw [f7, q7]; decide)), dif_same (k := 6) (i := 2 * 0 + 1) (same_is (by rw [f6, g6 (by omega)])), List.append_nil]
  show difL _ 6 0 = _
  rw [dif_no (same_no (by rw [f6, q6]; decide)), dif_same (k := 5) (i := 2 * 0 + 1) (same_is (by rw [f5, g5 (by omega)])), List.append_nil]
  show difL _ 5 0 = _
  rw [dif_no (same_no (by rw [f5, q5]; decide)), dif_same (k := 4) (i := 2 * 0 + 1) (same_is (by rw [f4, g4 (by omega)])), List.append_nil]
  show difL _ 4 0 = _
  rw [dif_no (same_no (by rw [f4, q4]; decide)), dif_same (k := 3) (i := 2 * 0 + 1) (same_is (by rw [f3, g3 (by omega)])), List.append_nil]
  show difL _ 3 0 = _
  rw [dif_no (same_no (by rw [f3, q3]; decide)), dif_same (k := 2) (i := 2 * 0 + 1) (same_is (by rw [f2, g2 (by omega)])), List.append_nil]
  show difL _ 2 0 = _
  rw [dif_no (same_no (by rw [f2, q2]; decide)), dif_same (k := 1) (i := 2 * 0) (same_is (by rw [f1, g1 (by omega)])), List.nil_append]
  show difL _ 1 1 = _
  rw [dif_no (same_no (by rw [f1, q1]; decide)), dif_same (k := 0) (i := 2 * 1) (same_is (by rw [f0, g0 (by omega)])), List.nil_append]
  show difL _ 0 3 = _
  exact dif_leaf (same_no (by rw [f0, q0]; decide))
theorem root3 : decide (nodeT (serL []) 8 0 = nodeT (serL [x3]) 8 0) = false := by rw [f8, q8]; decide
theorem TreeO.from_ {w0 w1 w : World} {b : Nat} {F : Nat → List It} (h : TreeO w1 w b F) (hb : Below w0.heap.size w0 w1) : TreeO w0 w b F := ⟨h.row, h.wf, h.len, below_step hb h.low, Nat.le_trans hb.size h.old⟩
set_option maxRecDepth 100000 in
set_option maxHeartbeats 3200000 in
theorem awake19_any (w : World) : Calls Try.prog 5 #[] w fun e w' => e = .returned (.bool true) ∧ Below w.heap.size w w' := by
  go_enter Try.func5, Try.ntmps5
  go_wp2_with fail
  refine (Calls.mono (tof_any none 0 [] w (by simp) RowAt.nil_) ?_); rintro e w1 ⟨a, rfl, hN⟩
  have hA := hN.o (fun s _ x hx => by simp [serL] at hx) (fun s _ => by simp [serL])
  have HA := hide hA
  have hal := below_alloc (Below.refl w1.heap.size w1) (.cells #[.int .i64 3, .int .i64 2, .int .u64 0, .int .u64 1, .int .i64 0] 33)
  have HXX : Hid (ItemsAt (w1.alloc (.cells #[.int .i64 3, .int .i64 2, .int .u64 0, .int .u64 1, .int .i64 0] 33)) (some ⟨w1.heap.size, 0, none⟩) [x3]) := hide (RowAt.new_one (cells := It.cells) (sz := 5) (y := x3) (heap_alloc_new w1 (.cells #[.int .i64 3, .int .i64 2, .int .u64 0, .int .u64 1, .int .i64 0] 33)))
  have HAL := hide hal
  clear hN hA hal
  go_wp2_with fail
  refine (Calls.mono (tof_any (some ⟨w1.heap.size, 0, none⟩) 1 [x3] _ (by simp) HXX.out) ?_); rintro e w3 ⟨b, rfl, hN⟩
  have hB0 := hN.o (fun s _ x hx => by
    have h1 : x = x3 := by have := (List.mem_filter.1 hx).1; simpa using this
    subst h1
    exact ⟨by decide, by decide, by decide, by decide, by decide⟩) (fun s _ => Nat.le_trans (serL_le _ _) (by simp))
  have hB := hB0.from_ (below_step HA.out.low HAL.out)
  have hA := (HA.out.below HAL.out).below hN.low
  have hne : a ≠ b := fun e => by have := hN.old; have := (HA.out.below HAL.out).lt; omega
  have HA := hide hA
  have HB := hide hB
  have HD := hide (differ_any (w0 := w) (w := w3) (pa := some a) (pb := some b) (fun q hq => by obtain rfl := Option.some.inj hq; exact hA) (fun q hq => by obtain rfl := Option.some.inj hq; exact hB) (fun q hq e => hne ((Option.some.inj hq).trans (Option.some.inj e).symm)) hA.low.size)
  have HNE := hide hne
  rw [dif3] at HD
  unfold ptrV at HD
  simp only [Option.map_some] at HD
  clear hN hB0 hB hA HXX HAL hne
  go_wp2_with fail
  refine (Calls.mono HD.out ?_); rintro e w4 ⟨v, rfl, ho, hta, htb, _⟩
  have hA := hta a rfl
  have hB := htb b rfl
  obtain ⟨A, c, rfl, hv, _, _⟩ := OwnL.vals ho
  obtain ⟨g, off, rfl, hg, hc3⟩ := RowAt.one hv (Below.refl _ _) (k := 0) (by simp)
  have hc3 : w4.cell? ⟨g, off, none⟩ = some (.int .i64 3) := hc3
  have HS := hide (tsame_any hA hB HNE.out)
  rw [root3] at HS
  clear hta htb ho hv HD hA hB HA HB
  go_wp2_with fail
  refine (Calls.mono HS.out ?_); rintro e w5 ⟨rfl, hA, _, _⟩
  have HL0 := hide (tleaf_any hA 0 (by omega))
  clear hA HS hc3 hg
  go_wp2_with fail
  refine (Calls.mono HL0.out ?_); rintro e w6 ⟨rfl, hA, _⟩
  have HL1 := hide (tleaf_any hA 255 (by omega))
  rw [show serL [] 255 = serL [] 0 from rfl] at HL1
  clear hA HL0
  obtain ⟨y, hy⟩ : ∃ y, leafT (serL [] 0) = y := ⟨_, rfl⟩
  rw [hy] at HL1 ⊢
  go_wp2_with fail
  refine (Calls.mono HL1.out ?_); rintro e w7 ⟨rfl, hA, _⟩
  have HR := hide (root_any hA)
  clear hA HL1 hy
  go_wp2_with fail
  refine (Calls.mono HR.out ?_); rintro e w8 ⟨rfl, hA, _⟩
  have HN8 := hide (node_any hA 8 0 (by omega) (by decide))
  clear hA HR
  obtain ⟨z, hz⟩ : ∃ z, nodeT (serL []) 8 0 = z := ⟨_, rfl⟩
  rw [hz] at HN8 ⊢
  clear hz
  go_wp2_with fail
  refine (Calls.mono HN8.out ?_); rintro e w9 ⟨rfl, hA, _⟩
  have HLOW := hide hA.low
  clear hA HN8
  go_wp2_with fail
  go_ret
  exact ⟨rfl, HLOW.out⟩
end Go.Proofs.Ythpbohheddkfiaa
