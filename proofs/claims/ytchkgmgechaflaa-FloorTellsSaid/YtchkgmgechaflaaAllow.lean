/- Whether all items are above a floor: contracts of floor.Allow and of the document's answer; whether numbers may be. Condition: the length fits an int. -/
import Derived.Test.YtchkgmgechaflaaFloor
import Derived.Deep.QuietTactic
import Derived.BigQuiet
import Derived.WalkLawsBesides
namespace Go.Proofs.Ytchkgmgechaflaa
open Go.ChangeShapes Go.WideShapes Go.ChangeAt Go.RowKit

def lowB (f : Int) (x : It) : Bool := decide (x.v ≤ f)
def allowB (f : Int) (L : List It) : Bool := !anyI (lowB f) L

set_option maxHeartbeats 400000 in
theorem allow1_any (x : It) (B : Nat) (f : Int) (w : World) (hc : w.cell? ⟨B, 0, none⟩ = some (.int .u64 f)) (hB : B < w.heap.size) :
    Calls Try.prog 21 #[x.val, .pointer (some ⟨B, 0, none⟩)] w fun e w' => e = .returned (.bool (lowB f x)) ∧ Below w.heap.size w w' := by
  go_enter Try.func21, Try.ntmps21
  go_wp2
  go_ret
  exact ⟨rfl, by go_grown⟩
theorem allow1_in : Enters Try.prog 21 := fun _ _ => by kernel_rfl

set_option maxHeartbeats 400000 in
theorem pallow_any (f c a l : Int) (A : Option Addr) (k : Nat) (L : List It) (w : World) (hl : L.length ≤ 9223372036854775807) (hL : ItemsAt w A L) :
    Calls Try.prog 14 #[meta4 f c a l, .slice A L.length k] w fun e w' => e = .returned (.bool (allowB f L)) ∧ Below w.heap.size w w' := by
  have HL := hide hL
  clear hL
  have HA : Hid (allowB f L = !anyI (lowB f) L) := rfl
  generalize hg : allowB f L = r at *
  clear hg
  go_enter Try.func14, Try.ntmps14
  go_wp2_with fail
  refine (contains_any 21 _ allow1_in (lowB f) A k L _ hl (HL.out.below (Below.alloc (Below.refl _ _) (Nat.le_refl _) _)) ?_).mono ?_
  · intro x _ w1 hb
    refine allow1_any x w.heap.size f w1 ?_ ?_
    · rw [hb.cell (by simp)]; simp
    · have := hb.size; simp at this; omega
  · rintro e w1 ⟨rfl, hg1⟩
    go_wp2
    go_ret
    exact ⟨by rw [HA.out]; rfl, by repeat' (first | exact Below.refl _ _ | refine below_alloc ?_ _ | refine below_step ?_ (by assumption))⟩

theorem low_hit {f : Int} {L : List It} {k : Nat} (hk : k < L.length) (h : L[k].v ≤ f) : allowB f L = false := by
  simp only [allowB, anyI, Bool.not_eq_false', List.any_eq_true]
  exact ⟨L[k], List.getElem_mem hk, decide_eq_true h⟩
theorem low_miss {f : Int} {L : List It} (h : ∀ j (hj : j < L.length), f < L[j].v) : allowB f L = true := by
  simp only [allowB, anyI, Bool.not_eq_true', List.any_eq_false]
  intro x hx
  obtain ⟨j, hj, rfl⟩ := List.getElem_of_mem hx
  have := h j hj
  simp [lowB]; omega
theorem low_snoc {f : Int} {L : List It} {k : Nat} {hk : k < L.length} (h : ∀ j (_ : j < k) (hj : j < L.length), f < L[j].v) (hp : ¬ L[k].v ≤ f) : ∀ j (_ : j < k + 1) (hj : j < L.length), f < L[j].v := by
  intro j hj hj'
  by_cases e : j = k
  · subst e; omega
  · exact h j (by omega) hj'

set_option maxHeartbeats 400000 in
theorem rallow_any (f c a l : Int) (A : Option Addr) (cp : Nat) (L : List It) (w : World) (hl : L.length ≤ 9223372036854775807) (hL : ItemsAt w A L) :
    Calls Try.prog 18 #[meta4 f c a l, .slice A L.length cp] w fun e w' => e = .returned (.bool (allowB f L)) ∧ Below w.heap.size w w' := by
  have HL := hide hL
  clear hL
  go_enter Try.func18, Try.ntmps18
  go_wp2
  go_loopw [5] (fun i wr => ∃ k : Nat, k ≤ L.length ∧ i = .int .i64 k ∧ Below w.heap.size w wr ∧ wr.cell? ⟨w.heap.size, 0, none⟩ = some (.int .u64 f) ∧ ∀ j (hj : j < k) (hj' : j < L.length), f < L[j].v) (fun i _ => L.length - (intOf i).toNat)
  case atStart => exact ⟨0, by omega, rfl, by go_grown, by simp, by intro j hj; omega⟩
  case round =>
    obtain ⟨k, hk, rfl, hb, hcf, hp⟩ := hrel
    have HP := hide hp
    clear hp
    by_cases hlt : k < L.length
    · obtain ⟨b, off, rfl, hbb, c0, c1, c2, c3, c4⟩ := HL.out.item hb hlt
      by_cases hpk : L[k].v ≤ f
      · have HM := hide (low_hit hlt hpk)
        go_wp2
        go_quiet (fail)
        go_wp2
        go_ret
        exact ⟨by rw [HM.out]; rfl, below_drewN hb _⟩
      · have HN := hide (low_snoc HP.out hpk)
        go_wp2
        go_quiet (fail)
        go_wp2
        go_roundw
        case rel => exact ⟨k + 1, by omega, by go_num, below_drewN hb _, by simp [hcf], HN.out⟩
        case measure => simp [intOf]; omega
    · have HM := hide (low_miss (fun j hj => HP.out j (by omega) hj))
      go_wp2
      go_ret
      exact ⟨by rw [HM.out]; rfl, hb⟩

set_option maxHeartbeats 400000 in
theorem pok_any (f c a l : Int) (w : World) :
    Calls Try.prog 13 #[meta4 f c a l] w fun e w' => e = .returned (.bool (metaB f c a l)) ∧ Below w.heap.size w w' := by
  by_cases h1 : c ≤ f
  · by_cases h2 : f ≤ 281474976710656
    · by_cases h3 : a ≤ 281474976710656
      · by_cases h4 : l ≤ 281474976710656
        · have e : metaB f c a l = true := decide_eq_true ⟨h1, h2, h3, h4⟩
          rw [e]
          clear e
          go_enter Try.func13, Try.ntmps13
          go_wp2
          all_goals
            go_ret
            exact ⟨by simp; try omega, by go_grown⟩
        · have e : metaB f c a l = false := decide_eq_false (by omega)
          rw [e]
          clear e
          go_enter Try.func13, Try.ntmps13
          go_wp2
          all_goals
            go_ret
            exact ⟨by simp; try omega, by go_grown⟩
      · have e : metaB f c a l = false := decide_eq_false (by omega)
        rw [e]
        clear e
        go_enter Try.func13, Try.ntmps13
        go_wp2
        all_goals
          go_ret
          exact ⟨by simp; try omega, by go_grown⟩
    · have e : metaB f c a l = false := decide_eq_false (by omega)
      rw [e]
      clear e
      go_enter Try.func13, Try.ntmps13
      go_wp2
      all_goals
        go_ret
        exact ⟨by simp; try omega, by go_grown⟩
  · have e : metaB f c a l = false := decide_eq_false (by omega)
    rw [e]
    clear e
    go_enter Try.func13, Try.ntmps13
    go_wp2
    all_goals
      go_ret
      exact ⟨by simp; try omega, by go_grown⟩
set_option maxHeartbeats 400000 in
theorem rok_any (f c a l : Int) (w : World) :
    Calls Try.prog 17 #[meta4 f c a l] w fun e w' => e = .returned (.bool (metaB f c a l)) ∧ Below w.heap.size w w' := by
  by_cases h1 : c ≤ f
  · by_cases h2 : f ≤ 281474976710656
    · by_cases h3 : a ≤ 281474976710656
      · by_cases h4 : l ≤ 281474976710656
        · have e : metaB f c a l = true := decide_eq_true ⟨h1, h2, h3, h4⟩
          rw [e]
          clear e
          go_enter Try.func17, Try.ntmps17
          go_wp2
          all_goals
            go_ret
            exact ⟨by simp; try omega, by go_grown⟩
        · have e : metaB f c a l = false := decide_eq_false (by omega)
          rw [e]
          clear e
          go_enter Try.func17, Try.ntmps17
          go_wp2
          all_goals
            go_ret
            exact ⟨by simp; try omega, by go_grown⟩
      · have e : metaB f c a l = false := decide_eq_false (by omega)
        rw [e]
        clear e
        go_enter Try.func17, Try.ntmps17
        go_wp2
        all_goals
          go_ret
          exact ⟨by simp; try omega, by go_grown⟩
    · have e : metaB f c a l = false := decide_eq_false (by omega)
      rw [e]
      clear e
      go_enter Try.func17, Try.ntmps17
      go_wp2
      all_goals
        go_ret
        exact ⟨by simp; try omega, by go_grown⟩
  · have e : metaB f c a l = false := decide_eq_false (by omega)
    rw [e]
    clear e
    go_enter Try.func17, Try.ntmps17
    go_wp2
    all_goals
      go_ret
      exact ⟨by simp; try omega, by go_grown⟩
end Go.Proofs.Ytchkgmgechaflaa
