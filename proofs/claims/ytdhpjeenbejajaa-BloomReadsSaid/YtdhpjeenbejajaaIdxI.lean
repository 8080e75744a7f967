/- slices.IndexFunc and slices.ContainsFunc on numbers, for any function value that answers as a Lean predicate: contracts. Condition: the length fits an int; the callee's contract. -/
import Derived.Test.YtdhpjeenbejajaaOne
namespace Go.Proofs.Ytdhpjeenbejajaa
set_option linter.unusedVariables false
set_option linter.unusedSimpArgs false
open Go.ChangeShapes Go.WideShapes Go.ChangeAt Go.RowKit

def findN (p : Int → Bool) (L : List Int) : Int := match L.findIdx? p with | some i => i | none => -1
theorem findN_hit {p : Int → Bool} {L : List Int} {k : Nat} (hk : k < L.length) (h : ∀ j (_ : j < k) (hj' : j < L.length), p L[j] = false) (hp : p L[k] = true) : findN p L = k := by
  have e : L.findIdx? p = some k := by
    rw [List.findIdx?_eq_some_iff_getElem]
    exact ⟨hk, hp, fun j hj => by simp [h j hj (by omega)]⟩
  simp [findN, e]
theorem findN_miss {p : Int → Bool} {L : List Int} (h : ∀ j (hj' : j < L.length), p L[j] = false) : findN p L = -1 := by
  have e : L.findIdx? p = none := by
    rw [List.findIdx?_eq_none_iff]
    intro x hx
    obtain ⟨j, hj, rfl⟩ := List.getElem_of_mem hx
    exact h j hj
  simp [findN, e]
theorem findN_nonneg (p : Int → Bool) (L : List Int) : decide (0 ≤ findN p L) = L.any p := by
  unfold findN
  cases h : L.findIdx? p with
  | none =>
    rw [List.findIdx?_eq_none_iff] at h
    have : L.any p = false := by rw [List.any_eq_false]; intro x hx; simp [h x hx]
    rw [this]; rfl
  | some i =>
    rw [List.findIdx?_eq_some_iff_getElem] at h
    obtain ⟨hi, hp, _⟩ := h
    have : L.any p = true := List.any_eq_true.2 ⟨L[i], List.getElem_mem hi, hp⟩
    rw [this]; simp
theorem missN_snoc {p : Int → Bool} {L : List Int} {k : Nat} {hk : k < L.length} (h : ∀ j (_ : j < k) (hj' : j < L.length), p L[j] = false) (hp : p L[k] = false) : ∀ j (_ : j < k + 1) (hj' : j < L.length), p L[j] = false := by
  intro j hj hj'
  by_cases e : j = k
  · subst e; exact hp
  · exact h j (by omega) hj'
def TellsN (F : FuncId) (caps : Array Value) (p : Int → Bool) (L : List Int) (w : World) : Prop :=
  ∀ x ∈ L, ∀ w1, Below w.heap.size w w1 → Calls Try.prog F (#[.int .i64 x] ++ caps) w1 fun e w2 => e = .returned (.bool (p x)) ∧ Below w1.heap.size w1 w2

set_option maxHeartbeats 400000 in
theorem indexN_any (F : FuncId) (caps : Array Value) (hcf : Enters Try.prog F) (p : Int → Bool) (A : Option Addr) (c : Nat) (L : List Int) (w : World) (hl : L.length ≤ 9223372036854775807) (hL : ValsAt i64v w A L)
   (hF : TellsN F caps p L w) :
    Calls Try.prog 31 #[.slice A L.length c, .func (.func F) #[] caps] w fun e w' => e = .returned (.int .i64 (findN p L)) ∧ Below w.heap.size w w' := by
  unfold Enters at hcf
  unfold TellsN at hF
  go_enter Try.func31, Try.ntmps31
  go_wp2
  go_loopw [5, 8] (fun _ i wr => ∃ k : Nat, k ≤ L.length ∧ i = .int .i64 k ∧ Below w.heap.size w wr ∧ ∀ j (hj : j < k) (hj' : j < L.length), p L[j] = false) (fun _ i _ => L.length - (intOf i).toNat)
  case atStart => exact ⟨0, by omega, rfl, Below.refl _ _, by intro j hj; omega⟩
  case round =>
    obtain ⟨k, hk, rfl, hb, hp⟩ := hrel
    have HP := hide hp
    clear hp
    by_cases hlt : k < L.length
    · obtain ⟨b, off, rfl, hbb, c0⟩ := RowAt.one hL hb hlt
      have hFk := hF L[k] (List.getElem_mem _) wr hb
      have HF := hide hFk
      clear hFk hF
      cases hpk : p L[k]
      · have HN := hide (missN_snoc HP.out hpk)
        go_wp2_with (refine (Calls.mono HF.out ?_); rintro e w1 ⟨rfl, hg1⟩; try rw [hpk])
        go_roundw
        case rel => exact ⟨k + 1, by omega, by go_num, hb.trans (hg1.mono hb.size), HN.out⟩
        case measure => simp [intOf]; omega
      · have HM := hide (findN_hit hlt HP.out hpk)
        go_wp2_with (refine (Calls.mono HF.out ?_); rintro e w1 ⟨rfl, hg1⟩; try rw [hpk])
        go_ret
        exact ⟨by rw [HM.out]; rfl, hb.trans (hg1.mono hb.size)⟩
    · have HM := hide (findN_miss (fun j hj => HP.out j (by omega) hj))
      go_wp2
      go_ret
      exact ⟨by rw [HM.out]; rfl, hb⟩
theorem containsN_any (F : FuncId) (caps : Array Value) (hcf : Enters Try.prog F) (p : Int → Bool) (A : Option Addr) (c : Nat) (L : List Int) (w : World) (hl : L.length ≤ 9223372036854775807) (hL : ValsAt i64v w A L)
   (hF : TellsN F caps p L w) :
    Calls Try.prog 21 #[.slice A L.length c, .func (.func F) #[] caps] w fun e w' => e = .returned (.bool (L.any p)) ∧ Below w.heap.size w w' := by
  have H := hide (indexN_any F caps hcf p A c L w hl hL hF)
  have HE := hide (findN_nonneg p L)
  clear hF hL
  generalize findN p L = q at *
  generalize L.any p = r at *
  go_enter Try.func21, Try.ntmps21
  go_wp2_with (refine (Calls.mono H.out ?_); rintro e w1 ⟨rfl, hg1⟩)
  go_ret
  exact ⟨by rw [← HE.out]; rfl, hg1⟩
end Go.Proofs.Ytdhpjeenbejajaa
