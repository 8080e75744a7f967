/- The document's Evenly: a contract. Condition: the lengths. -/
import Derived.Test.YtebnifpclebliaaAxRf
namespace Go.Proofs.Ytebnifpclebliaa
set_option linter.unusedVariables false
set_option linter.unusedSimpArgs false
open Go.ChangeShapes Go.WideShapes Go.ChangeAt Go.RowKit

/-- What one item of a list says of the other lists. -/
def FineX (SS : List (Sv It)) (f : Int) (i : Nat) (x : It) (k : Nat) : Prop := ∀ (hk : k < SS.length), k ≠ i → badB (SS[k]'hk).L f x = false
theorem fine_even {SS : List (Sv It)} {f : Int} {i : Nat} (hi : i < SS.length) (h : ∀ x ∈ (SS[i]'hi).L, ∀ k, FineX SS f i x k) (j : Nat) : EvenIJ SS f i j := fun _ hj hne => by
  unfold evenB
  rw [show anyI (badB (SS[j]'hj).L f) (SS[i]'hi).L = false from by
    unfold anyI
    rw [List.any_eq_false]
    intro x hx
    rw [h x hx j hj (fun e => hne e.symm)]
    simp]
  rfl
theorem fine_not {SS : List (Sv It)} {f : Int} {i k : Nat} (hi : i < SS.length) (hk : k < SS.length) (hne : k ≠ i) {x : It} (hx : x ∈ (SS[i]'hi).L) (h : badB (SS[k]'hk).L f x = true) : evensB SS f = false :=
  evensB_no hi hk (fun e => hne e.symm) (by
    unfold evenB
    rw [show anyI (badB (SS[k]'hk).L f) (SS[i]'hi).L = true from by
      unfold anyI
      rw [List.any_eq_true]
      exact ⟨x, hx, h⟩]
    rfl)
theorem fine_late {SS : List (Sv It)} {f : Int} {i : Nat} {x : It} (h : f < x.v) (k : Nat) : FineX SS f i x k := fun _ _ => by
  unfold badB
  rw [decide_eq_false (by omega)]; rfl

set_option maxHeartbeats 6400000 in
set_option maxRecDepth 100000 in
theorem evenly_any (A : Option Addr) (c : Nat) (SS : List (Sv It)) (f : Int) (w : World) (hL : RowAt (fun s : Sv It => [s.val]) 1 w A SS) (hS : ∀ s ∈ SS, SGood w s) (hn : SS.length ≤ 4611686018427387904) (hl : ∀ s ∈ SS, s.L.length ≤ 4611686018427387904) :
    Calls Try.prog 21 #[.slice A SS.length c, .int .u64 f] w fun e w' => e = .returned (.bool (evensB SS f)) ∧ Below w.heap.size w w' := by
  have HL := hide hL
  have HS := hide hS
  have HN := hide hl
  clear hL hS hl
  go_enter Try.func21, Try.ntmps21
  go_wp2_with fail
  go_loopw [5] (fun i wr => ∃ k : Nat, k ≤ SS.length ∧ i = .int .i64 k ∧ Below w.heap.size w wr ∧ ∀ i j, i < k → EvenIJ SS f i j) (fun i _ => SS.length - (intOf i).toNat)
  case atStart => exact ⟨0, by omega, rfl, Below.refl _ _, fun i j h => absurd h (by omega)⟩
  case round =>
    obtain ⟨i, hi, rfl, hb, hno⟩ := hrel
    have HB := hide hb
    have HNO := hide hno
    clear hno
    obtain ⟨wa, rfl⟩ : ∃ wa, wa = wr := ⟨_, rfl⟩
    by_cases hlt : i < SS.length
    · obtain ⟨bl, off, rfl, hbb, y0⟩ := RowAt.one (val := fun s : Sv It => s.val) HL.out hb hlt
      have hbl : bl < wa.heap.size := Nat.lt_of_lt_of_le hbb HB.out.size
      have hm := List.getElem_mem hlt
      have hG1 := (HS.out _ hm).below hb
      have hG2 := HN.out _ hm
      have HFE : Hid ((∀ x ∈ (SS[i]'hlt).L, ∀ k, FineX SS f i x k) → ∀ j, EvenIJ SS f i j) := hide (fun h j => fine_even hlt h j)
      have HFN : Hid (∀ (k : Nat) (hk : k < SS.length), k ≠ i → ∀ x ∈ (SS[i]'hlt).L, badB (SS[k]'hk).L f x = true → evensB SS f = false) := hide (fun k hk hne x hx h => fine_not hlt hk hne hx h)
      have HY : Hid (∀ W, Below wa.heap.size wa W → W.cell? ⟨bl, off + i, none⟩ = some ((SS[i]'hlt).val)) := hide (fun W hW => (hW.cell (p := ⟨bl, _, none⟩) hbl).trans y0)
      generalize SS[i]'hlt = s at *
      clear hm hb y0
      have HG1 := hide hG1
      clear hG1
      obtain ⟨As, cs, Ls⟩ := s
      replace HY : Hid (∀ W, Below wa.heap.size wa W → W.cell? ⟨bl, off + i, none⟩ = some (.slice As Ls.length cs)) := HY
      dsimp only at hG2 HFE HFN
      replace HG1 : Hid (Sl wa (.slice As Ls.length cs) Ls) := HG1
      have HIS : Hid (ItemsAt wa As Ls) := hide (by obtain ⟨A', c', e, h, _⟩ := HG1.out; injection e with e1 e2 e3; subst e1; exact h)
      go_wp2_with fail
      go_loopw [6] (fun v wr => ∃ j : Nat, j ≤ Ls.length ∧ v = .int .i64 j ∧ Below wa.heap.size wa wr ∧ ∀ (j' : Nat) (h : j' < Ls.length), j' < j → ∀ k, FineX SS f i (Ls[j']'h) k) (fun v _ => Ls.length - (intOf v).toNat)
      case atStart => exact ⟨0, by omega, rfl, Below.refl _ _, fun j' _ h => absurd h (by omega)⟩
      case round =>
        obtain ⟨j, hj, rfl, hb, hno⟩ := hrel
        have HB1 := hide hb
        have HNO1 := hide hno
        have y0 := HY.out _ hb
        clear hno
        obtain ⟨wb, rfl⟩ : ∃ wb, wb = wr := ⟨_, rfl⟩
        have hblb : bl < wb.heap.size := Nat.lt_of_lt_of_le hbl hb.size
        by_cases hlj : j < Ls.length
        · obtain ⟨bi, offi, rfl, hbbi, z0, z1, z2, z3, z4⟩ := ItemsAt.item HIS.out hb hlj
          have HFX : Hid (∀ (k : Nat) (hk : k < SS.length), k ≠ i → badB (SS[k]'hk).L f (Ls[j]'hlj) = true → evensB SS f = false) := hide (fun k hk hne h => HFN.out k hk hne _ (List.getElem_mem hlj) h)
          have HFY : Hid ((∀ k, FineX SS f i (Ls[j]'hlj) k) → ∀ (j' : Nat) (h : j' < Ls.length), j' < j + 1 → ∀ k, FineX SS f i (Ls[j']'h) k) := hide (fun h j' hj' hlt' k => by
            by_cases e : j' = j
            · subst e; exact h k
            · exact HNO1.out j' hj' (by omega) k)
          clear hb
          generalize Ls[j]'hlj = x at *
          have hbx := below_alloc HB1.out (.cells x.cells.toArray 32)
          have HBX := hide hbx
          have HX0 := hide (ItAt.box (x := x) (t := 32) (fr := (0, 0)) (heap_alloc_new wb (.cells x.cells.toArray 32)))
          clear hbx
          go_wp2_with fail
          go_loopw [8] (fun v wr => ∃ k : Nat, k ≤ SS.length ∧ v = .int .i64 k ∧ Below wa.heap.size wa wr ∧ ItAt wr wb.heap.size x ∧ ∀ k', k' < k → FineX SS f i x k') (fun v _ => SS.length - (intOf v).toNat)
          case atStart => exact ⟨0, by omega, rfl, HBX.out, HX0.out, fun k' h => absurd h (by omega)⟩
          case round =>
            obtain ⟨k, hk, rfl, hb, hx, hno⟩ := hrel
            have HB2 := hide hb
            have HX := hide hx
            have HNO2 := hide hno
            obtain ⟨xl, x0, x1, x2, x3, x4⟩ := hx
            have hnc := near_cells wr
            clear hno hb HBX HX0 z0 z1 z2 z3 z4 y0
            by_cases hlk : k < SS.length
            · by_cases hv : x.v ≤ f
              · by_cases hki : k = i
                · have hd : ((k : Int) == (i : Int)) = true := by simp [hki]
                  have HSK : Hid (∀ k', k' < k + 1 → FineX SS f i x k') := hide (fun k' h => by
                    by_cases e : k' = k
                    · intro _ hne; exact absurd (e.trans hki) hne
                    · exact HNO2.out k' (by omega))
                  clear hki
                  go_wp2_with fail
                  go_roundw
                  case rel => exact ⟨k + 1, by omega, by go_num, HB2.out, HX.out, HSK.out⟩
                  case measure => simp [intOf]; omega
                · have hd : ((k : Int) == (i : Int)) = false := by simp; omega
                  obtain ⟨bl2, off2, hA2, hbb2, q0⟩ := RowAt.one (val := fun s : Sv It => s.val) HL.out (below_step HB.out HB2.out) hlk
                  injection hA2 with hA2
                  injection hA2 with e1 e2 _
                  subst e1 e2
                  have hblr : bl < wr.heap.size := Nat.lt_of_lt_of_le hbl HB2.out.size
                  have hm := List.getElem_mem hlk
                  have hG3 := (HS.out _ hm).below (below_step HB.out HB2.out)
                  have hG4 := HN.out _ hm
                  have HFK := hide (HFX.out k hlk hki)
                  have HSK : Hid (badB (SS[k]'hlk).L f x = false → ∀ k', k' < k + 1 → FineX SS f i x k') := hide (fun hf k' h => by
                    by_cases e : k' = k
                    · subst e; intro _ _; exact hf
                    · exact HNO2.out k' (by omega))
                  generalize SS[k]'hlk = s2 at *
                  clear hm hki
                  obtain ⟨At, ct, Lt⟩ := s2
                  replace q0 : wr.cell? ⟨bl, off + k, none⟩ = some (.slice At Lt.length ct) := q0
                  dsimp only at hG4 HFK HSK
                  have HG3 : Hid (Sl wr (.slice At Lt.length ct) Lt) := hG3
                  clear hG3
                  have hca := fun W (hW : Below wr.heap.size wr W) => after_sl x (Sl.below HG3.out hW) hG4
                  have hcb := fun W (hW : Below wr.heap.size wr W) => bare_sl x (Sl.below HG3.out hW) hG4
                  have hbd : badB Lt f x = (decide (x.v ≤ f) && (decide (x.k = 2) && !anyI (inB x) Lt || anyI (hidesB x) Lt)) := rfl
                  rw [decide_eq_true hv, Bool.true_and] at hbd
                  generalize anyI (inB x) Lt = q1 at *
                  generalize anyI (hidesB x) Lt = q2 at *
                  generalize badB Lt f x = bd at *
                  by_cases hk2 : x.k = 2
                  · have bk : (x.k == 2) = true := by simp [hk2]
                    rw [decide_eq_true hk2, Bool.true_and] at hbd
                    clear hk2
                    cases q1
                    · obtain rfl : bd = true := by rw [hbd]; rfl
                      have HCA := hide hca
                      have HF : Hid (evensB SS f = false) := hide (HFK.out (by first | rfl | trivial))
                      clear hca hcb hbd
                      go_wp2_with fail
                      refine wp_region_near (by kernel_rfl) (by kernel_rfl) ?_
                      repeat (go_big_quiet_step (first | (go_at_call 42; exact near_of (HCA.out _ (Near.is _)))))
                      refine wpQuiet_nil ?_
                      intro _ hw'
                      obtain ⟨s1, rfl⟩ := hw'
                      go_wp2_with fail
                      go_ret
                      exact ⟨by rw [HF.out]; rfl, below_step (below_step HB.out HB2.out) s1.is⟩
                    · obtain rfl : bd = q2 := by rw [hbd]; rfl
                      clear hbd
                      cases bd
                      all_goals
                        have HCA := hide hca
                        have HCB := hide hcb
                        clear hca hcb
                        go_wp2_with fail
                        refine wp_region_near (by kernel_rfl) (by kernel_rfl) ?_
                        repeat (go_big_quiet_step (first | (go_at_call 42; exact near_of (HCA.out _ (Near.is _))) | (go_at_call 38; exact near_of (HCB.out _ (Near.is _)))))
                        refine wpQuiet_nil ?_
                        intro _ hw'
                        obtain ⟨s1, rfl⟩ := hw'
                        go_wp2_with fail
                      · go_roundw
                        case rel => exact ⟨k + 1, by omega, by go_num, below_step HB2.out s1.is, HX.out.below s1.is, HSK.out (by first | rfl | trivial)⟩
                        case measure => simp [intOf]; omega
                      · go_ret
                        exact ⟨by rw [HFK.out (by first | rfl | trivial)]; rfl, below_step (below_step HB.out HB2.out) s1.is⟩
                  · have bk : (x.k == 2) = false := by simp [hk2]
                    rw [decide_eq_false hk2, Bool.false_and, Bool.false_or] at hbd
                    subst hbd
                    clear hk2
                    cases bd
                    all_goals
                      have HCB := hide hcb
                      clear hca hcb
                      go_wp2_with fail
                      refine wp_region_near (by kernel_rfl) (by kernel_rfl) ?_
                      repeat (go_big_quiet_step (first | (go_at_call 38; exact near_of (HCB.out _ (Near.is _)))))
                      refine wpQuiet_nil ?_
                      intro _ hw'
                      obtain ⟨s1, rfl⟩ := hw'
                      go_wp2_with fail
                    · go_roundw
                      case rel => exact ⟨k + 1, by omega, by go_num, below_step HB2.out s1.is, HX.out.below s1.is, HSK.out (by first | rfl | trivial)⟩
                      case measure => simp [intOf]; omega
                    · go_ret
                      exact ⟨by rw [HFK.out (by first | rfl | trivial)]; rfl, below_step (below_step HB.out HB2.out) s1.is⟩
              · have hdv : decide (x.v ≤ f) = false := decide_eq_false hv
                have hv2 : f < x.v := by omega
                have HNX := hide (HFY.out (fun k' => fine_late hv2 k'))
                go_wp2_with fail
                go_roundw
                case rel => exact ⟨j + 1, by omega, by go_num, HB2.out, HNX.out⟩
                case measure => simp [intOf]; omega
            · have HNX := hide (HFY.out (fun k' hk' => HNO2.out k' (by omega) hk'))
              go_wp2_with fail
              go_roundw
              case rel => exact ⟨j + 1, by omega, by go_num, HB2.out, HNX.out⟩
              case measure => simp [intOf]; omega
        · have HNX : Hid (∀ i' j, i' < i + 1 → EvenIJ SS f i' j) := hide (fun i' j' h => by
            by_cases e : i' = i
            · subst e
              exact HFE.out (fun x hx k => by
                obtain ⟨n, hn, rfl⟩ := List.getElem_of_mem hx
                exact HNO1.out n hn (by omega) k) j'
            · exact HNO.out i' j' (by omega))
          go_wp2_with fail
          go_roundw
          case rel => exact ⟨i + 1, by omega, by go_num, below_step HB.out HB1.out, HNX.out⟩
          case measure => simp [intOf]; omega
    · have HF : Hid (evensB SS f = true) := hide (evensB_yes (fun i' j h => HNO.out i' j (by omega)))
      go_wp2_with fail
      go_ret
      exact ⟨by rw [HF.out]; rfl, HB.out⟩
end Go.Proofs.Ytebnifpclebliaa
