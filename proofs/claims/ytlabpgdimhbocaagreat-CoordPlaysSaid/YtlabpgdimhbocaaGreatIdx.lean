/- slices.IndexFunc on items, for any function value that answers as a Lean predicate: contracts. Condition: the length fits an int; the callee's contract. -/
import Derived.Test.YtlabpgdimhbocaaGreatLib
namespace Go.Proofs.YtlabpgdimhbocaaGreat
set_option linter.unusedVariables false
set_option linter.unusedSimpArgs false
open Go.ChangeShapes Go.WideShapes Go.ChangeAt Go.RowKit

def findI (p : It → Bool) (L : List It) : Int := match L.findIdx? p with | some i => i | none => -1
theorem findI_hit {p : It → Bool} {L : List It} {k : Nat} (hk : k < L.length) (h : ∀ j (_ : j < k) (hj' : j < L.length), p L[j] = false) (hp : p L[k] = true) : findI p L = k := by
  have e : L.findIdx? p = some k := by
    rw [List.findIdx?_eq_some_iff_getElem]
    exact ⟨hk, hp, fun j hj => by simp [h j hj (by omega)]⟩
  simp [findI, e]
theorem findI_miss {p : It → Bool} {L : List It} (h : ∀ j (hj' : j < L.length), p L[j] = false) : findI p L = -1 := by
  have e : L.findIdx? p = none := by
    rw [List.findIdx?_eq_none_iff]
    intro x hx
    obtain ⟨j, hj, rfl⟩ := List.getElem_of_mem hx
    exact h j hj
  simp [findI, e]
theorem miss_snoc {p : It → Bool} {L : List It} {k : Nat} {hk : k < L.length} (h : ∀ j (_ : j < k) (hj' : j < L.length), p L[j] = false) (hp : p L[k] = false) : ∀ j (_ : j < k + 1) (hj' : j < L.length), p L[j] = false := by
  intro j hj hj'
  by_cases e : j = k
  · subst e; exact hp
  · exact h j (by omega) hj'
/-- A function value (a function and what it captured) that tells a predicate of every item of a list, and turns nothing that was there. -/
def Tells (F : FuncId) (caps : Array Value) (p : It → Bool) (L : List It) (w : World) : Prop :=
  ∀ x ∈ L, ∀ w1, Below w.heap.size w w1 → Calls Tryz.prog F (#[x.val] ++ caps) w1 fun e w2 => e = .returned (.bool (p x)) ∧ Below w1.heap.size w1 w2

set_option maxHeartbeats 400000 in
theorem index_any (F : FuncId) (caps : Array Value) (hcf : Enters Tryz.prog F) (p : It → Bool) (A : Option Addr) (c : Nat) (L : List It) (w : World) (hl : L.length ≤ 9223372036854775807) (hL : ItemsAt w A L)
   (hF : Tells F caps p L w) :
    Calls Tryz.prog 60 #[.slice A L.length c, .func (.func F) #[] caps] w fun e w' => e = .returned (.int .i64 (findI p L)) ∧ Below w.heap.size w w' := by
  unfold Enters at hcf
  unfold Tells at hF
  go_enter Tryz.func60, Tryz.ntmps60
  go_wp2
  go_loopw [5, 8] (fun _ i wr => ∃ k : Nat, k ≤ L.length ∧ i = .int .i64 k ∧ Below w.heap.size w wr ∧ ∀ j (hj : j < k) (hj' : j < L.length), p L[j] = false) (fun _ i _ => L.length - (intOf i).toNat)
  case atStart => exact ⟨0, by omega, rfl, Below.refl _ _, by intro j hj; omega⟩
  case round =>
    obtain ⟨k, hk, rfl, hb, hp⟩ := hrel
    have HP := hide hp
    clear hp
    by_cases hlt : k < L.length
    · obtain ⟨b, off, rfl, hbb, c0, c1, c2, c3, c4⟩ := hL.item hb hlt
      have hFk := hF L[k] (List.getElem_mem _) wr hb
      have HF := hide hFk
      clear hFk hF
      cases hpk : p L[k]
      · have HN := hide (miss_snoc HP.out hpk)
        go_wp2_with (refine (Calls.mono HF.out ?_); rintro e w1 ⟨rfl, hg1⟩; try rw [hpk])
        go_roundw
        case rel => exact ⟨k + 1, by omega, by go_num, hb.trans (hg1.mono hb.size), HN.out⟩
        case measure => simp [intOf]; omega
      · have HM := hide (findI_hit hlt HP.out hpk)
        go_wp2_with (refine (Calls.mono HF.out ?_); rintro e w1 ⟨rfl, hg1⟩; try rw [hpk])
        go_ret
        exact ⟨by rw [HM.out]; rfl, hb.trans (hg1.mono hb.size)⟩
    · have HM := hide (findI_miss (fun j hj => HP.out j (by omega) hj))
      go_wp2
      go_ret
      exact ⟨by rw [HM.out]; rfl, hb⟩

end Go.Proofs.YtlabpgdimhbocaaGreat
