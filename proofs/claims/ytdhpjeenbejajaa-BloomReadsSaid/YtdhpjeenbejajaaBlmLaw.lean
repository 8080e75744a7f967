/- What a filter's bits are: plain facts on lists of bytes. No program's function occurs here. -/
import Derived.Test.YtdhpjeenbejajaaBlm3
namespace Go.Proofs.Ytdhpjeenbejajaa
set_option linter.unusedVariables false
set_option linter.unusedSimpArgs false
open Go.ChangeShapes Go.WideShapes Go.ChangeAt Go.RowKit

theorem pop_or : ∀ b : Fin 256, ∀ r : Fin 8, Lib.onesCount (b.val ||| 2 ^ r.val) = Lib.onesCount b.val + (if b.val.testBit r.val then 0 else 1) := by decide +kernel
theorem clr_bit : ∀ b : Fin 256, ∀ r : Fin 8, clrB (b.val : Int) r.val = !(b.val.testBit r.val) := by decide +kernel

theorem clrB_eq {b : Int} (hb : isB b) {r : Nat} (hr : r < 8) : clrB b r = !(b.toNat.testBit r) := by
  unfold isB at hb
  have := clr_bit ⟨b.toNat, by omega⟩ ⟨r, hr⟩
  simp only [Int.toNat_of_nonneg hb.1] at this
  exact this
theorem clrB_or {b : Int} (hb : isB b) {r i : Nat} (hr : r < 8) (hi : i < 8) : clrB (orB b i) r = (clrB b r && !(decide (r = i))) := by
  rw [clrB_eq (orB_isB hb hi) hr, clrB_eq hb hr, orB_eq hb i hi, Int.toNat_natCast, Nat.testBit_or, Nat.testBit_two_pow, Bool.not_or]
  congr 2
  by_cases h : i = r <;> simp [h] <;> omega
theorem pop_orB {b : Int} (hb : isB b) {i : Nat} (hi : i < 8) : pop (orB b i) = pop b + (if clrB b i then 1 else 0) := by
  rw [clrB_eq hb hi]
  unfold pop
  rw [orB_eq hb i hi, Int.toNat_natCast]
  unfold isB at hb
  have := pop_or ⟨b.toNat, by omega⟩ ⟨i, hi⟩
  simp only at this
  rw [this]
  cases b.toNat.testBit i <;> simp

/-- Bytes, as many as the bits' numbers may say. -/
def okB (B : List Int) : Prop := ∀ b ∈ B, isB b
def okQ (n : Nat) (q : Int) : Prop := 0 ≤ q ∧ q < n * 8
theorem okB_set {B : List Int} (h : okB B) (m : Nat) {x : Int} (hx : isB x) : okB (B.set m x) := fun b hb => by
  rcases List.mem_or_eq_of_mem_set hb with h1 | rfl
  · exact h b h1
  · exact hx
theorem okB_setP {B : List Int} (h : okB B) (q : Int) : okB (setP B q) := okB_set h _ (orB_isB (getD_isB h _) (by omega))
theorem okB_addL {B : List Int} (h : okB B) (ps : List Int) : okB (addL B ps) := by
  unfold addL
  induction ps generalizing B with
  | nil => exact h
  | cons q ps ih => exact ih (okB_setP h q)
theorem clrP_setP {B : List Int} (h : okB B) {q p : Int} (hq : okQ B.length q) (hp : okQ B.length p) : clrP (setP B q) p = (clrP B p && !(decide (p = q))) := by
  unfold okQ at hq hp
  unfold clrP setP
  by_cases e : (p / 8).toNat = (q / 8).toNat
  · rw [e]
    have hlt : (q / 8).toNat < B.length := by omega
    rw [List.getElem?_set_self hlt]
    simp only [Option.getD_some]
    rw [clrB_or (getD_isB h _) (by omega) (by omega)]
    congr 2
    by_cases h2 : p = q
    · subst h2; simp
    · have : (p % 8).toNat ≠ (q % 8).toNat := by omega
      simp [h2, this]
  · rw [List.getElem?_set_ne (fun h => e h.symm)]
    have : p ≠ q := fun h => e (by rw [h])
    simp [this]
theorem clrP_addL {B : List Int} (h : okB B) {ps : List Int} (hq : ∀ q ∈ ps, okQ B.length q) {p : Int} (hp : okQ B.length p) : clrP (addL B ps) p = (clrP B p && !(decide (p ∈ ps))) := by
  unfold addL
  induction ps generalizing B with
  | nil => simp
  | cons q ps ih =>
    rw [List.foldl_cons, ih (okB_setP h q) (fun x hx => by rw [setP_len]; exact hq x (List.mem_cons_of_mem _ hx)) (by rw [setP_len]; exact hp), clrP_setP h (hq q (by simp)) hp]
    by_cases h1 : p = q <;> by_cases h2 : p ∈ ps <;> simp [h1, h2] <;> simp_all
theorem onesN_set {B : List Int} {m : Nat} (hm : m < B.length) {x : Int} : onesN (B.set m x) + pop B[m] = onesN B + pop x := by
  induction B generalizing m with
  | nil => simp at hm
  | cons b B ih =>
    cases m with
    | zero => simp [onesN]; omega
    | succ m =>
      have := ih (m := m) (by simpa using hm)
      simp only [onesN, List.set_cons_succ, List.map_cons, List.sum_cons, List.getElem_cons_succ] at *
      omega
theorem onesN_setP {B : List Int} (h : okB B) {q : Int} (hq : okQ B.length q) : onesN (setP B q) = onesN B + (if clrP B q then 1 else 0) := by
  unfold okQ at hq
  have hlt : (q / 8).toNat < B.length := by omega
  have h1 := onesN_set hlt (x := orB (B[(q / 8).toNat]?.getD 0) (q % 8).toNat)
  rw [pop_orB (getD_isB h _) (by omega)] at h1
  have e : B[(q / 8).toNat]?.getD 0 = B[(q / 8).toNat] := by simp [hlt]
  unfold setP clrP
  rw [e] at h1 ⊢
  omega
theorem onesN_addL {B : List Int} (h : okB B) {ps : List Int} (hq : ∀ q ∈ ps, okQ B.length q) :
    onesN B ≤ onesN (addL B ps) ∧ onesN (addL B ps) ≤ onesN B + ps.length ∧ (onesN (addL B ps) = onesN B ↔ hasL B ps = true) := by
  unfold addL
  induction ps generalizing B with
  | nil => simp [hasL]
  | cons q ps ih =>
    obtain ⟨h1, h2, h3⟩ := ih (okB_setP h q) (fun x hx => by rw [setP_len]; exact hq x (List.mem_cons_of_mem _ hx))
    have h4 := onesN_setP h (hq q (by simp))
    rw [List.foldl_cons, List.length_cons]
    cases hc : clrP B q with
    | true =>
      rw [hc] at h4
      simp only [if_true] at h4
      refine ⟨by omega, by omega, ?_⟩
      simp only [hasL, List.any_cons, hc, Bool.true_or, Bool.not_true, Bool.false_eq_true, iff_false]
      omega
    | false =>
      rw [hc] at h4
      simp only [Bool.false_eq_true, if_false, Nat.add_zero] at h4
      refine ⟨by omega, by omega, ?_⟩
      rw [← h4, h3]
      have e : ∀ x ∈ ps, clrP (setP B q) x = clrP B x := fun x hx => by
        rw [clrP_setP h (hq q (by simp)) (hq x (List.mem_cons_of_mem _ hx))]
        by_cases hxq : x = q
        · subst hxq; simp [hc]
        · simp [hxq]
      have e2 : ps.any (clrP (setP B q)) = ps.any (clrP B) := by
        rw [Bool.eq_iff_iff, List.any_eq_true, List.any_eq_true]
        constructor
        · rintro ⟨x, hx, hx2⟩; exact ⟨x, hx, by rw [← e x hx]; exact hx2⟩
        · rintro ⟨x, hx, hx2⟩; exact ⟨x, hx, by rw [e x hx]; exact hx2⟩
      simp only [hasL, List.any_cons, hc, Bool.false_or, e2]
theorem hasL_iff {B ps : List Int} : hasL B ps = true ↔ ∀ q ∈ ps, clrP B q = false := by
  simp [hasL]
/-- What a filter had it has. -/
theorem hasL_addL {B : List Int} (h : okB B) {ps rs : List Int} (hq : ∀ q ∈ ps, okQ B.length q) (hr : ∀ q ∈ rs, okQ B.length q) (hh : hasL B rs = true) : hasL (addL B ps) rs = true := by
  rw [hasL_iff] at *
  intro q hqr
  rw [clrP_addL h hq (hr q hqr), hh q hqr]
  rfl
theorem hasL_self {B : List Int} (h : okB B) {ps : List Int} (hq : ∀ q ∈ ps, okQ B.length q) : hasL (addL B ps) ps = true := by
  rw [hasL_iff]
  intro q hqp
  rw [clrP_addL h hq (hq q hqp)]
  simp [hqp]
theorem okB_zeros (n : Nat) : okB (List.replicate n 0) := fun b hb => by
  have := List.eq_of_mem_replicate hb
  subst this
  exact ⟨by decide, by decide⟩
theorem clrP_zeros (n : Nat) {q : Int} (hq : okQ n q) : clrP (List.replicate n 0) q = true := by
  unfold okQ at hq
  unfold clrP
  have h1 : (q / 8).toNat < n := by omega
  have h2 : (List.replicate n (0 : Int))[(q / 8).toNat]?.getD 0 = 0 := by simp [h1]
  rw [h2, clrB_eq ⟨by decide, by decide⟩ (by omega)]
  simp
theorem onesN_zeros (n : Nat) : onesN (List.replicate n 0) = 0 := by
  have : pop 0 = 0 := by decide +kernel
  induction n with
  | zero => rfl
  | succ n ih => simp only [onesN, List.replicate_succ, List.map_cons, List.sum_cons, this] at *; omega
theorem hasL_zeros (n : Nat) {ps : List Int} (hn : ps ≠ []) (hq : ∀ q ∈ ps, okQ n q) : hasL (List.replicate n 0) ps = false := by
  cases ps with
  | nil => exact absurd rfl hn
  | cons q ps => simp [hasL, clrP_zeros n (hq q (by simp))]
/-- Two fillings with the same bits are the same bytes. -/
theorem bytes_ext {B C : List Int} (hB : okB B) (hC : okB C) (hl : B.length = C.length) (h : ∀ q, okQ B.length q → clrP B q = clrP C q) : B = C := by
  apply List.ext_getElem hl
  intro m h1 h2
  have hb := hB _ (List.getElem_mem h1)
  have hc := hC _ (List.getElem_mem h2)
  have key : ∀ r, r < 8 → B[m].toNat.testBit r = C[m].toNat.testBit r := by
    intro r hr
    have hx := h (m * 8 + r : Nat) ⟨by omega, by omega⟩
    unfold clrP at hx
    have e1 : (((m * 8 + r : Nat) : Int) / 8).toNat = m := by omega
    have e2 : (((m * 8 + r : Nat) : Int) % 8).toNat = r := by omega
    rw [e1, e2] at hx
    simp only [List.getElem?_eq_getElem h1, List.getElem?_eq_getElem h2, Option.getD_some] at hx
    rw [clrB_eq hb hr, clrB_eq hc hr] at hx
    simpa using hx
  have hbn : B[m].toNat < 2 ^ 8 := by unfold isB at hb; omega
  have hcn : C[m].toNat < 2 ^ 8 := by unfold isB at hc; omega
  have : B[m].toNat = C[m].toNat := by
    apply Nat.eq_of_testBit_eq
    intro i
    by_cases hi : i < 8
    · exact key i hi
    · rw [Nat.testBit_lt_two_pow (Nat.lt_of_lt_of_le hbn (Nat.pow_le_pow_right (by omega) (by omega))), Nat.testBit_lt_two_pow (Nat.lt_of_lt_of_le hcn (Nat.pow_le_pow_right (by omega) (by omega)))]
  unfold isB at hb hc
  omega
end Go.Proofs.Ytdhpjeenbejajaa
