/- What every history keeps: plain words on lists of items. No program's function occurs here. -/
import Derived.Test.YtebnifpclebliaaAxE
import Derived.Test.YtebnifpclebliaaAxP
import Derived.Test.YtebnifpclebliaaStLaw
import Derived.Test.YtebnifpclebliaaRFil
namespace Go.Proofs.Ytebnifpclebliaa
set_option linter.unusedVariables false
set_option linter.unusedSimpArgs false
open Go.ChangeShapes Go.WideShapes Go.ChangeAt Go.RowKit

theorem anyI_false {p : It → Bool} {L : List It} : anyI p L = false ↔ ∀ x ∈ L, p x = false := by
  unfold anyI; rw [List.any_eq_false]; simp
theorem anyI_true {p : It → Bool} {L : List It} : anyI p L = true ↔ ∃ x ∈ L, p x = true := by
  unfold anyI; rw [List.any_eq_true]
theorem hidesB_iff {t x : It} : hidesB t x = true ↔ It.hides t x := by unfold hidesB; rw [decide_eq_true_eq]
theorem sameB_iff {t x : It} : sameB t x = true ↔ It.same t x := by unfold sameB; rw [decide_eq_true_eq]
theorem isB_iff {x y : It} : isB x y = true ↔ It.same x y ∧ x.v ≤ y.v := by unfold isB; rw [Bool.and_eq_true, sameB_iff, decide_eq_true_eq]
theorem goneB_iff {x t : It} {got : List It} : goneB x got t = true ↔ t.k = 1 ∧ t.s = x.s ∧ x.v ≤ t.v ∧ ∀ z ∈ got, ¬ It.hides t z := by
  unfold goneB
  rw [Bool.and_eq_true, Bool.and_eq_true, Bool.and_eq_true, decide_eq_true_eq, decide_eq_true_eq, decide_eq_true_eq, Bool.not_eq_true', anyI_false]
  constructor
  · rintro ⟨⟨⟨h1, h2⟩, h3⟩, h4⟩
    exact ⟨h1, h2, h3, fun z hz e => by have := h4 z hz; rw [hidesB_iff.2 e] at this; cases this⟩
  · rintro ⟨h1, h2, h3, h4⟩
    exact ⟨⟨⟨h1, h2⟩, h3⟩, fun z hz => Bool.eq_false_iff.2 fun e => h4 z hz (hidesB_iff.1 e)⟩
/-- Of items that came in, what must be there is there. -/
theorem there_ok {M P got : List It} {s : Int} (hg : ∀ z ∈ P, It.good z) (hPM : ∀ z ∈ P, z ∈ M) (h1 : ∀ z ∈ got, There P z) (h2 : ∀ z, There P z → z.k = 2 → z.s = s → z ∈ got) {x : It} (hx : x ∈ P) (hs : x.s = s) : thereB M got x = true := by
  obtain ⟨y, hy, hxy, hw, hbest⟩ := best_ex P x hx
  have hv : x.v ≤ y.v := by
    have := hw
    unfold It.wins at this
    omega
  unfold thereB
  by_cases ht : ∃ t ∈ P, It.hides t y
  · obtain ⟨t, htP, hh⟩ := ht
    have : anyI (goneB x got) M = true := anyI_true.2 ⟨t, hPM t htP, goneB_iff.2 ⟨hh.1, by have := hh.2.2.1; have := hxy.1; omega, by have := hh.2.2.2; omega, fun z hz => (h1 z hz).2.2 t htP⟩⟩
    rw [this, Bool.or_true]
  · have hty : There P y := ⟨hy, fun z hz hs' => hbest z hz (by obtain ⟨a, b, c⟩ := hs'; obtain ⟨d, e, f⟩ := hxy; exact ⟨d.trans a, e.trans b, f.trans c⟩), fun t ht' e => ht ⟨t, ht', e⟩⟩
    have hk := (hg y hy).2.2
    by_cases hk2 : y.k = 2
    · have : anyI (isB x) got = true := anyI_true.2 ⟨y, h2 y hty hk2 (by have := hxy.1; omega), isB_iff.2 ⟨hxy, hv⟩⟩
      rw [this, Bool.true_or]
    · have : anyI (goneB x got) M = true := anyI_true.2 ⟨y, hPM y hy, goneB_iff.2 ⟨by omega, by have := hxy.1; omega, hv, fun z hz => (h1 z hz).2.2 y hy⟩⟩
      rw [this, Bool.or_true]
theorem eqI_any {x : It} {L : List It} : anyI (eqI x) L = true ↔ x ∈ L := by
  rw [anyI_true]
  constructor
  · rintro ⟨y, hy, h⟩; rw [eqI_iff.1 h]; exact hy
  · exact fun h => ⟨x, h, eqI_self x⟩
theorem hasU_iff {x : Int} {L : List Int} : hasU x L = true ↔ x ∈ L := by
  unfold hasU
  rw [List.any_eq_true]
  constructor
  · rintro ⟨y, hy, h⟩; rw [beq_iff_eq] at h; rw [h]; exact hy
  · exact fun h => ⟨x, h, by simp⟩
theorem read_ok {M P got : List It} {K : List Int} {s : Int} (hg : ∀ z ∈ P, It.good z) (hPM : ∀ z ∈ P, z ∈ M) (hK : ∀ x ∈ M, x.v ∈ K → x ∈ P) (hst : IsState got)
    (h1 : ∀ z ∈ got, There P z ∧ z.s = s) (h2 : ∀ z, There P z → z.k = 2 → z.s = s → z ∈ got) : readL M K got s = true := by
  unfold readL
  have e1 : anyI (rd1 s M) got = false := anyI_false.2 fun x hx => by
    obtain ⟨a, b⟩ := h1 x hx
    unfold rd1
    rw [decide_eq_true b, eqI_any.2 (hPM x a.1)]; rfl
  have e2 : anyI (rd2 s K M got) M = false := anyI_false.2 fun x hx => by
    unfold rd2
    by_cases hs : x.s = s
    · cases hk : hasU x.v K
      · simp
      · rw [there_ok hg hPM (fun z hz => (h1 z hz).1) h2 (hK x hx (hasU_iff.1 hk)) hs]; simp
    · rw [decide_eq_false hs]; rfl
  rw [stateB_true hst, e1, e2]; rfl
theorem IsState.filter {l : List It} (h : IsState l) (p : It → Bool) : IsState (l.filter p) :=
  ⟨fun x hx => h.1 x (List.mem_filter.1 hx).1, List.Pairwise.sublist List.filter_sublist h.2.1, fun t ht x hx => h.2.2 t (List.mem_filter.1 ht).1 x (List.mem_filter.1 hx).1⟩
theorem gone_ok {I : List An} {P got : List It} (hI : itemsL I = P) (h1 : ∀ z ∈ got, There P z) : goneL I got = true := by
  unfold goneL
  rw [hI]
  have : anyI (fun t => anyI (hidesB t) got) P = false := anyI_false.2 fun t ht => anyI_false.2 fun z hz => Bool.eq_false_iff.2 fun e => (h1 z hz).2.2 t ht (hidesB_iff.1 e)
  rw [this]; rfl
theorem even_self {a : List It} (h : IsState a) (f : Int) : evenB a a f = true := by
  unfold evenB
  have : anyI (badB a f) a = false := anyI_false.2 fun x hx => by
    have e1 : anyI (inB x) a = true := anyI_true.2 ⟨x, hx, by unfold inB; rw [isB_iff.2 ⟨⟨rfl, rfl, rfl⟩, Int.le_refl _⟩]; rfl⟩
    have e2 : anyI (hidesB x) a = false := anyI_false.2 fun z hz => Bool.eq_false_iff.2 fun e => h.2.2 x hx z hz (hidesB_iff.1 e)
    unfold badB
    rw [e1, e2]; simp
  rw [this]; rfl
end Go.Proofs.Ytebnifpclebliaa
