/- round.Round in plain words: who counts, when it fills, when it ends. -/
import Derived.Test.YtikecafblampeaaRndD
namespace Go.Proofs.Ytikecafblampeaa
set_option linter.unusedVariables false
set_option linter.unusedSimpArgs false
/-- How many of the first n have counted. -/
def cntC (C : Nat → Bool) : Nat → Nat
  | 0 => 0
  | n + 1 => cntC C n + (if C n = true then 1 else 0)
def setC (C : Nat → Bool) (i : Nat) : Nat → Bool := fun k => if k = i then true else C k
theorem cntC_le (C : Nat → Bool) : ∀ n, cntC C n ≤ n
  | 0 => Nat.le_refl _
  | n + 1 => by
    have := cntC_le C n
    unfold cntC
    split <;> omega
theorem cntC_full {C : Nat → Bool} : ∀ {n}, (∀ j, j < n → C j = true) → cntC C n = n
  | 0, _ => rfl
  | n + 1, h => by
    unfold cntC
    rw [cntC_full (fun j hj => h j (by omega)), if_pos (h n (by omega))]
theorem cntC_none (n : Nat) : cntC (fun _ => false) n = 0 := by
  induction n with
  | zero => rfl
  | succ n ih => unfold cntC; rw [ih]; rfl
theorem cntC_lt {C : Nat → Bool} {i : Nat} : ∀ {n}, i < n → C i = false → cntC C n < n
  | n + 1, hi, h => by
    unfold cntC
    by_cases e : i = n
    · subst e
      rw [if_neg (by simp [h])]
      have := cntC_le C i
      omega
    · have := cntC_lt (C := C) (n := n) (by omega) h
      split <;> omega
theorem cntC_far {C : Nat → Bool} {i : Nat} : ∀ {n}, n ≤ i → cntC (setC C i) n = cntC C n
  | 0, _ => rfl
  | n + 1, h => by
    unfold cntC
    rw [cntC_far (by omega)]
    have e : setC C i n = C n := by unfold setC; rw [if_neg (by omega)]
    rw [e]
theorem cntC_set {C : Nat → Bool} {i : Nat} : ∀ {n}, i < n → C i = false → cntC (setC C i) n = cntC C n + 1
  | n + 1, hi, h => by
    unfold cntC
    by_cases e : i = n
    · subst e
      have e1 : setC C i i = true := by unfold setC; rw [if_pos rfl]
      rw [cntC_far (Nat.le_refl _), e1, h]
      simp
    · rw [cntC_set (by omega) h]
      have e2 : setC C i n = C n := by unfold setC; rw [if_neg (fun h => e h.symm)]
      rw [e2]
      omega
theorem cntC_two {C : Nat → Bool} {n i j : Nat} (hi : i < n) (hj : j < n) (hij : i ≠ j) (h1 : C i = false) (h2 : C j = false) : cntC C n + 1 < n := by
  rw [← cntC_set hi h1]
  exact cntC_lt hj (by unfold setC; rw [if_neg (fun e => hij e.symm)]; exact h2)
/-- A round of n, by whom has counted. -/
def stG (n : Nat) (a id f p : Int) (C : Nat → Bool) (L : List It) (tk : Int) : Rs := ⟨n, a, id, f, p, C, cntC C n, L, tk, 0, 0, 0, 0⟩
def endG (n : Nat) (a id f : Int) (C : Nat → Bool) (L : List It) (tk e v : Int) : Rs := ⟨n, a, id, f, 3, C, cntC C n, L, tk, 1, id, e, v⟩
theorem rs0_stG (n : Nat) (a id f : Int) : rs0 n a id f = stG n a id f 1 (fun _ => false) [] 0 := by
  unfold rs0 stG
  rw [cntC_none]
  rfl
section
variable {n : Nat} {a id f p : Int} {C : Nat → Bool} {L : List It} {tk : Int} {m : Mg} {i : Nat}
theorem refB_hit (hp : p ≠ 3) (hm : mokB m = true) (ht : m.t = a) (hid : m.id = id) (hn : m.n = f ∨ m.k = 3) (hf : m.f = (i : Int)) (hi : i < n) : refB (stG n a id f p C L tk) m = false := by
  unfold refB stG
  simp only [Bool.or_eq_false_iff, Bool.not_eq_false', beq_eq_false_iff_ne, beq_iff_eq, decide_eq_false_iff_not, Bool.and_eq_false_iff]
  refine ⟨⟨⟨⟨⟨hp, hm⟩, ht⟩, hid⟩, by rw [hf]; omega⟩, hn⟩
theorem on_more (hp : (p = 1 ∧ m.k = 7) ∨ (p = 2 ∧ m.k = 9)) (hm : mokB m = true) (ht : m.t = a) (hid : m.id = id) (hn : m.n = f) (hf : m.f = (i : Int)) (hi : i < n) (hc : C i = false) (hj : ∃ j, j < n ∧ i ≠ j ∧ C j = false) :
    onR (stG n a id f p C L tk) m = stG n a id f p (setC C i) (if p = 1 then joinL L m.L else L) tk ∧ onM (stG n a id f p C L tk) m = [] := by
  have hr := refB_hit (n := n) (C := C) (L := L) (tk := tk) (p := p) (i := i) (by omega) hm ht hid (.inl hn) hf hi
  have hk : ¬ m.k = 3 := by omega
  have hit : m.f.toNat = i := by omega
  have hcc : ¬ (stG n a id f p C L tk).C m.f.toNat = true := by rw [hit]; simp [stG, hc]
  have hh : hitB (stG n a id f p C L tk) m := hp
  obtain ⟨j, h1, h2, h3⟩ := hj
  have h2n := cntC_two hi h1 h2 hc h3
  have hlt : (takeR (stG n a id f p C L tk) m).cnt + 1 < (takeR (stG n a id f p C L tk) m).n := by
    unfold takeR stG
    split <;> (show (cntC C n : Int) + 1 < n; omega)
  have e1 : onR (stG n a id f p C L tk) m = countR (takeR (stG n a id f p C L tk) m) i := by
    unfold onR
    rw [if_neg (by simp [hr])]
    unfold swR
    rw [if_neg hk, if_neg hcc, if_pos hh, hit]
    unfold goR
    rw [if_pos hlt]
  refine ⟨?_, ?_⟩
  · rw [e1]
    unfold takeR countR markR stG
    rw [cntC_set hi hc]
    by_cases h1 : p = 1
    · simp only [h1, if_true]; rfl
    · simp only [h1, if_false]; rfl
  · unfold onM
    rw [if_neg (by simp [hr])]
    unfold swM
    rw [if_neg hk, if_neg hcc, if_pos hh, hit]
    unfold goM
    rw [if_pos hlt]
theorem on_fill (hk7 : m.k = 7) (hm : mokB m = true) (ht : m.t = a) (hid : m.id = id) (hn : m.n = f) (hf : m.f = (i : Int)) (hi : i < n) (hc : C i = false) (hj : ∀ j, j < n → i ≠ j → C j = true) :
    onR (stG n a id f 1 C L tk) m = stG n a id f 2 (fun _ => false) (joinL L m.L) tk ∧ onM (stG n a id f 1 C L tk) m = sendR (stG n a id f 2 (fun _ => false) (joinL L m.L) tk) true := by
  have hr := refB_hit (n := n) (C := C) (L := L) (tk := tk) (p := 1) (i := i) (by omega) hm ht hid (.inl hn) hf hi
  have hk : ¬ m.k = 3 := by omega
  have hit : m.f.toNat = i := by omega
  have hcc : ¬ (stG n a id f 1 C L tk).C m.f.toNat = true := by rw [hit]; simp [stG, hc]
  have hh : hitB (stG n a id f 1 C L tk) m := .inl ⟨rfl, hk7⟩
  have hcn : cntC C n + 1 = n := by
    rw [← cntC_set hi hc]
    refine cntC_full (fun j hj' => ?_)
    unfold setC
    split
    · rfl
    · rename_i h
      exact hj j hj' (fun e => h e.symm)
  have hlt : ¬ (takeR (stG n a id f 1 C L tk) m).cnt + 1 < (takeR (stG n a id f 1 C L tk) m).n := by
    unfold takeR stG
    show ¬ (cntC C n : Int) + 1 < n
    omega
  have hp1 : (takeR (stG n a id f 1 C L tk) m).ph = 1 := rfl
  have e2 : fillR (countR (takeR (stG n a id f 1 C L tk) m) i) = stG n a id f 2 (fun _ => false) (joinL L m.L) tk := by
    unfold takeR countR markR stG fillR
    rw [cntC_none]
    rfl
  refine ⟨?_, ?_⟩
  · unfold onR
    rw [if_neg (by simp [hr])]
    unfold swR
    rw [if_neg hk, if_neg hcc, if_pos hh, hit]
    unfold goR
    rw [if_neg hlt, if_pos hp1, e2]
  · unfold onM
    rw [if_neg (by simp [hr])]
    unfold swM
    rw [if_neg hk, if_neg hcc, if_pos hh, hit]
    unfold goM
    rw [if_neg hlt, if_pos hp1, e2]
theorem on_done (hk9 : m.k = 9) (hm : mokB m = true) (ht : m.t = a) (hid : m.id = id) (hn : m.n = f) (hf : m.f = (i : Int)) (hi : i < n) (hc : C i = false) (hj : ∀ j, j < n → i ≠ j → C j = true) :
    onR (stG n a id f 2 C L tk) m = endG n a id f (setC C i) L tk 0 f ∧ onM (stG n a id f 2 C L tk) m = evenTo (endG n a id f (setC C i) L tk 0 f) n := by
  have hr := refB_hit (n := n) (C := C) (L := L) (tk := tk) (p := 2) (i := i) (by omega) hm ht hid (.inl hn) hf hi
  have hk : ¬ m.k = 3 := by omega
  have hit : m.f.toNat = i := by omega
  have hcc : ¬ (stG n a id f 2 C L tk).C m.f.toNat = true := by rw [hit]; simp [stG, hc]
  have hh : hitB (stG n a id f 2 C L tk) m := .inr ⟨rfl, hk9⟩
  have hcn : cntC (setC C i) n = cntC C n + 1 := cntC_set hi hc
  have hcf : cntC (setC C i) n = n := by
    refine cntC_full (fun j hj' => ?_)
    unfold setC
    split
    · rfl
    · rename_i h
      exact hj j hj' (fun e => h e.symm)
  have ht1 : takeR (stG n a id f 2 C L tk) m = stG n a id f 2 C L tk := by unfold takeR; rw [if_neg (by simp [stG])]
  have hlt : ¬ (stG n a id f 2 C L tk).cnt + 1 < (stG n a id f 2 C L tk).n := by
    show ¬ (cntC C n : Int) + 1 < n
    omega
  have hp1 : ¬ (stG n a id f 2 C L tk).ph = 1 := by simp [stG]
  have e2 : end1R (countR (stG n a id f 2 C L tk) i) 0 f = endG n a id f (setC C i) L tk 0 f := by
    unfold end1R
    rw [if_pos (by rfl)]
    unfold endR countR markR stG endG
    rw [hcn]
    rfl
  refine ⟨?_, ?_⟩
  · unfold onR
    rw [if_neg (by simp [hr])]
    unfold swR
    rw [if_neg hk, if_neg hcc, if_pos hh, hit, ht1]
    unfold goR
    rw [if_neg hlt, if_neg hp1]
    exact e2
  · unfold onM
    rw [if_neg (by simp [hr])]
    unfold swM
    rw [if_neg hk, if_neg hcc, if_pos hh, hit, ht1]
    unfold goM
    rw [if_neg hlt, if_neg hp1]
    show evenTo (end1R (countR (stG n a id f 2 C L tk) i) 0 f) _ = _
    rw [e2]
    rfl
theorem on_twice (hk : ¬ m.k = 3) (hf : m.f = (i : Int)) (hc : C i = true) : onR (stG n a id f p C L tk) m = stG n a id f p C L tk ∧ onM (stG n a id f p C L tk) m = [] := by
  have hit : m.f.toNat = i := by omega
  have hcc : (stG n a id f p C L tk).C m.f.toNat = true := by rw [hit]; exact hc
  refine ⟨?_, ?_⟩
  · unfold onR swR
    rw [if_neg hk, if_pos hcc, ite_self]
  · unfold onM swM
    rw [if_neg hk, if_pos hcc, ite_self]
theorem on_other (hp : p = 2) (hk : m.k = 7) : onR (stG n a id f p C L tk) m = stG n a id f p C L tk ∧ onM (stG n a id f p C L tk) m = [] := by
  have h3 : ¬ m.k = 3 := by omega
  have hh : ¬ hitB (stG n a id f p C L tk) m := by
    unfold hitB stG
    intro h
    rcases h with ⟨h1, _⟩ | ⟨_, h2⟩
    · have h1 : p = 1 := h1
      omega
    · omega
  refine ⟨?_, ?_⟩
  · unfold onR swR
    rw [if_neg h3, if_neg hh, ite_self, ite_self]
  · unfold onM swM
    rw [if_neg h3, if_neg hh, ite_self, ite_self]
theorem on_eld (hp : p ≠ 3) (hk : m.k = 3) (hm : mokB m = true) (ht : m.t = a) (hid : m.id = id) (hf : m.f = (i : Int)) (hi : i < n) :
    onR (stG n a id f p C L tk) m = endG n a id f C L tk 21 m.n ∧ onM (stG n a id f p C L tk) m = [] := by
  have hr := refB_hit (n := n) (C := C) (L := L) (tk := tk) (p := p) (i := i) (f := f) hp hm ht hid (.inr hk) hf hi
  refine ⟨?_, ?_⟩
  · unfold onR
    rw [if_neg (by simp [hr])]
    unfold swR
    rw [if_pos hk]
    unfold end1R
    rw [if_pos (by rfl)]
    rfl
  · unfold onM
    rw [if_neg (by simp [hr])]
    unfold swM
    rw [if_pos hk]
theorem tick_more (hp : p ≠ 3) (h40 : tk + 1 ≠ 40) : tickR (stG n a id f p C L tk) = stG n a id f p C L (tk + 1) := by
  have h1 : ¬ (stG n a id f p C L tk).ph = 3 := hp
  have h2 : ¬ (stG n a id f p C L tk).tk + 1 = 40 := h40
  unfold tickR
  rw [if_neg h1, if_neg h2]
  rfl
theorem tick_late (hp : p ≠ 3) : tickR (stG n a id f p C L 39) = endG n a id f C L 40 20 f ∧ tickM (stG n a id f p C L 39) = [] := by
  have h1 : ¬ (stG n a id f p C L 39).ph = 3 := hp
  have h2 : (stG n a id f p C L 39).tk + 1 = 40 := rfl
  refine ⟨?_, ?_⟩
  · unfold tickR
    rw [if_neg h1, if_pos h2]
    rfl
  · unfold tickM
    rw [if_neg h1, if_pos h2]
theorem tick_sends (hp : p ≠ 3) (h40 : tk + 1 ≠ 40) : tickM (stG n a id f p C L tk) = if (tk + 1) % 3 = 0 then sendTo (stG n a id f p C L (tk + 1)) false n else [] := by
  have h1 : ¬ (stG n a id f p C L tk).ph = 3 := hp
  have h2 : ¬ (stG n a id f p C L tk).tk + 1 = 40 := h40
  unfold tickM
  rw [if_neg h1, if_neg h2]
  have e : sendR (tick1 (stG n a id f p C L tk)) false = sendTo (stG n a id f p C L (tk + 1)) false n := by
    unfold sendR
    rw [if_neg (show ¬ (tick1 (stG n a id f p C L tk)).ph = 3 from hp)]
    rfl
  rw [e]
  rfl
end
end Go.Proofs.Ytikecafblampeaa
