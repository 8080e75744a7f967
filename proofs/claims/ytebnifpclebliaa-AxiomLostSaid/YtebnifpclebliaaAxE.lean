/- axiom.Even: a contract. Condition: the lengths. -/
import Derived.Test.YtebnifpclebliaaAxRd
import Derived.Test.YtebnifpclebliaaNest
namespace Go.Proofs.Ytebnifpclebliaa
set_option linter.unusedVariables false
set_option linter.unusedSimpArgs false
open Go.ChangeShapes Go.WideShapes Go.ChangeAt Go.RowKit

/-- A row of lists of items, in memory. -/
def SGood (w : World) (s : Sv It) : Prop := Sl w s.val s.L
theorem SGood.below {w w' : World} {s : Sv It} (h : SGood w s) (hb : Below w.heap.size w w') : SGood w' s := Sl.below h hb
def EvenIJ (SS : List (Sv It)) (f : Int) (i j : Nat) : Prop := ∀ (hi : i < SS.length) (hj : j < SS.length), i ≠ j → evenB (SS[i]'hi).L (SS[j]'hj).L f = true
def Evens (SS : List (Sv It)) (f : Int) : Prop := ∀ i j, EvenIJ SS f i j
open Classical in
noncomputable def evensB (SS : List (Sv It)) (f : Int) : Bool := decide (Evens SS f)
open Classical in
theorem evensB_no {SS : List (Sv It)} {f : Int} {i j : Nat} (hi : i < SS.length) (hj : j < SS.length) (hne : i ≠ j) (h : evenB (SS[i]'hi).L (SS[j]'hj).L f = false) : evensB SS f = false := by
  unfold evensB
  rw [decide_eq_false_iff_not]
  intro e
  have := e i j hi hj hne
  rw [h] at this
  cases this
open Classical in
theorem evensB_yes {SS : List (Sv It)} {f : Int} (h : ∀ i j, i < SS.length → EvenIJ SS f i j) : evensB SS f = true := by
  unfold evensB
  rw [decide_eq_true_eq]
  exact fun i j hi hj hne => h i j hi hi hj hne

set_option maxHeartbeats 6400000 in
theorem evens_any (A : Option Addr) (c : Nat) (SS : List (Sv It)) (f : Int) (w : World) (hL : RowAt (fun s : Sv It => [s.val]) 1 w A SS) (hS : ∀ s ∈ SS, SGood w s) (hn : SS.length ≤ 4611686018427387904) (hl : ∀ s ∈ SS, s.L.length ≤ 4611686018427387904) :
    Calls Try.prog 10 #[.slice A SS.length c, .int .u64 f] w fun e w' => e = .returned (.bool (evensB SS f)) ∧ Below w.heap.size w w' := by
  have HL := hide hL
  have HS := hide hS
  have HN := hide hl
  clear hL hS hl
  go_enter Try.func10, Try.ntmps10
  go_wp2_with fail
  go_loopw [11] (fun i wr => ∃ k : Nat, k ≤ SS.length ∧ i = .int .i64 k ∧ Below w.heap.size w wr ∧ ∀ i j, i < k → EvenIJ SS f i j) (fun i _ => SS.length - (intOf i).toNat)
  case atStart => exact ⟨0, by omega, rfl, Below.refl _ _, fun i j h => absurd h (by omega)⟩
  case round =>
    obtain ⟨k, hk, rfl, hb, hno⟩ := hrel
    have HB := hide hb
    have HNO := hide hno
    clear hno
    by_cases hlt : k < SS.length
    · obtain ⟨bl, off, rfl, hbb, y0⟩ := RowAt.one (val := fun s : Sv It => s.val) HL.out hb hlt
      have hm := List.getElem_mem hlt
      have hG1 := (HS.out _ hm).below hb
      have hG2 := HN.out _ hm
      have HEQ : Hid (∀ j (hj : j < SS.length), k ≠ j → evenB (SS[k]'hlt).L (SS[j]'hj).L f = true → EvenIJ SS f k j) := hide (fun j hj hne h hi' hj' _ => h)
      have HNQ : Hid (∀ j (hj : j < SS.length), k ≠ j → evenB (SS[k]'hlt).L (SS[j]'hj).L f = false → evensB SS f = false) := hide (fun j hj hne h => evensB_no hlt hj hne h)
      generalize SS[k]'hlt = s at *
      clear hm hb
      have HG1 := hide hG1
      clear hG1
      obtain ⟨As, cs, Ls⟩ := s
      replace y0 : wr.cell? ⟨bl, off + k, none⟩ = some (.slice As Ls.length cs) := y0
      dsimp only at hG2 HEQ HNQ
      replace HG1 : Hid (Sl wr (.slice As Ls.length cs) Ls) := HG1
      obtain ⟨wa, rfl⟩ : ∃ wa, wa = wr := ⟨_, rfl⟩
      go_wp2_with fail
      go_loopw [18] (fun i wr => ∃ j : Nat, j ≤ SS.length ∧ i = .int .i64 j ∧ Below wa.heap.size wa wr ∧ ∀ j', j' < j → EvenIJ SS f k j') (fun i _ => SS.length - (intOf i).toNat)
      case atStart => exact ⟨0, by omega, rfl, Below.refl _ _, fun j' h => absurd h (by omega)⟩
      case round =>
        obtain ⟨j, hj, rfl, hb, hno⟩ := hrel
        have HB1 := hide hb
        have HNO1 := hide hno
        clear hno hb
        by_cases hlj : j < SS.length
        · obtain ⟨bl2, off2, hA2, hbb2, z0⟩ := RowAt.one (val := fun s : Sv It => s.val) HL.out (below_step HB.out HB1.out) hlj
          injection hA2 with hA2
          injection hA2 with e1 e2 _
          subst e1 e2
          have hm := List.getElem_mem hlj
          have hG3 := (HS.out _ hm).below (below_step HB.out HB1.out)
          have hG4 := HN.out _ hm
          have HE1 := hide (HEQ.out j hlj)
          have HE2 := hide (HNQ.out j hlj)
          generalize SS[j]'hlj = s2 at *
          clear hm
          obtain ⟨At, ct, Lt⟩ := s2
          replace z0 : wr.cell? ⟨bl, off + j, none⟩ = some (.slice At Lt.length ct) := z0
          dsimp only at hG4 HE1 HE2
          have HG3 : Hid (Sl wr (.slice At Lt.length ct) Lt) := hG3
          clear hG3
          by_cases hkj : k = j
          · have hd : ((k : Int) == (j : Int)) = true := by simp [hkj]
            have hd2 : ((k : Int) != (j : Int)) = false := by simp [hkj]
            have HSK : Hid (∀ j', j' < j + 1 → EvenIJ SS f k j') := hide (fun j' h => by
              by_cases e : j' = j
              · intro hi hj hne; exact absurd (hkj.trans e.symm) hne
              · exact HNO1.out j' (by omega))
            clear hkj HE1 HE2
            go_wp2_with fail
            go_roundw
            case rel => exact ⟨j + 1, by omega, by go_num, HB1.out, HSK.out⟩
            case measure => simp [intOf]; omega
          · have hd : ((k : Int) == (j : Int)) = false := by simp; omega
            have hd2 : ((k : Int) != (j : Int)) = true := by simp; omega
            have HC := hide (even_sl f (HG1.out.below HB1.out) HG3.out hG2 hG4)
            have hev : evenB Ls Lt f = true → EvenIJ SS f k j := HE1.out hkj
            have hod : evenB Ls Lt f = false → evensB SS f = false := HE2.out hkj
            have HEV := hide hev
            have HOD := hide hod
            clear hev hod HE1 HE2
            generalize evenB Ls Lt f = q at *
            cases q
            · have HF : Hid (evensB SS f = false) := hide (HOD.out rfl)
              clear hkj HOD HEV
              go_wp2_with fail
              refine (Calls.mono HC.out ?_); rintro e w3 ⟨rfl, hg3⟩
              have HB3 := hide (below_step (below_step HB.out HB1.out) hg3)
              clear hg3
              go_wp2_with fail
              go_ret
              exact ⟨by rw [HF.out]; rfl, HB3.out⟩
            · have HSK : Hid (∀ j', j' < j + 1 → EvenIJ SS f k j') := hide (fun j' h => by
                by_cases e : j' = j
                · subst e; exact HEV.out rfl
                · exact HNO1.out j' (by omega))
              clear hkj HOD HEV
              go_wp2_with fail
              refine (Calls.mono HC.out ?_); rintro e w3 ⟨rfl, hg3⟩
              have HB3 := hide (below_step HB1.out hg3)
              clear hg3
              go_wp2_with fail
              go_roundw
              case rel => exact ⟨j + 1, by omega, by go_num, HB3.out, HSK.out⟩
              case measure => simp [intOf]; omega
        · have HSK : Hid (∀ i j, i < k + 1 → EvenIJ SS f i j) := hide (fun i j' h => by
            by_cases e : i = k
            · subst e
              intro hi hj hne
              exact HNO1.out j' (by omega) hi hj hne
            · exact HNO.out i j' (by omega))
          go_wp2_with fail
          go_roundw
          case rel => exact ⟨k + 1, by omega, by go_num, below_step HB.out HB1.out, HSK.out⟩
          case measure => simp [intOf]; omega
    · have HF : Hid (evensB SS f = true) := hide (evensB_yes (fun i j h => HNO.out i j (by omega)))
      go_wp2_with fail
      go_ret
      exact ⟨by rw [HF.out]; rfl, HB.out⟩
end Go.Proofs.Ytebnifpclebliaa
