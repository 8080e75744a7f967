/- coord.Call in plain words; its calls as a law makes them; awake of layer 24. Conditions: the call as it lies. -/
import Derived.Test.YtlabpgdimhbocaaGreatCoN
namespace Go.Proofs.YtlabpgdimhbocaaGreat
set_option linter.unusedVariables false
set_option linter.unusedSimpArgs false
open Go.ChangeShapes Go.WideShapes Go.ChangeAt Go.RowKit
/-- How many of the first n have counted. -/
def cntC (C : Nat → Bool) : Nat → Nat
  | 0 => 0
  | n + 1 => cntC C n + (if C n = true then 1 else 0)
def setC (C : Nat → Bool) (i : Nat) : Nat → Bool := fun k => if k = i then true else C k
theorem cntC_le (C : Nat → Bool) : ∀ n, cntC C n ≤ n
  | 0 => Nat.le_refl _
  | n + 1 => by
    have := cntC_le C n
    unfold cntC
    split <;> omega
theorem cntC_full {C : Nat → Bool} : ∀ {n}, (∀ j, j < n → C j = true) → cntC C n = n
  | 0, _ => rfl
  | n + 1, h => by
    unfold cntC
    rw [cntC_full (fun j hj => h j (by omega)), if_pos (h n (by omega))]
theorem cntC_none (n : Nat) : cntC (fun _ => false) n = 0 := by
  induction n with
  | zero => rfl
  | succ n ih => unfold cntC; rw [ih]; rfl
theorem cntC_lt {C : Nat → Bool} {i : Nat} : ∀ {n}, i < n → C i = false → cntC C n < n
  | n + 1, hi, h => by
    unfold cntC
    by_cases e : i = n
    · subst e
      rw [if_neg (by simp [h])]
      have := cntC_le C i
      omega
    · have := cntC_lt (C := C) (n := n) (by omega) h
      split <;> omega
theorem cntC_far {C : Nat → Bool} {i : Nat} : ∀ {n}, n ≤ i → cntC (setC C i) n = cntC C n
  | 0, _ => rfl
  | n + 1, h => by
    unfold cntC
    rw [cntC_far (by omega)]
    have e : setC C i n = C n := by unfold setC; rw [if_neg (by omega)]
    rw [e]
theorem cntC_set {C : Nat → Bool} {i : Nat} : ∀ {n}, i < n → C i = false → cntC (setC C i) n = cntC C n + 1
  | n + 1, hi, h => by
    unfold cntC
    by_cases e : i = n
    · subst e
      have e1 : setC C i i = true := by unfold setC; rw [if_pos rfl]
      rw [cntC_far (Nat.le_refl _), e1, h]
      simp
    · rw [cntC_set (by omega) h]
      have e2 : setC C i n = C n := by unfold setC; rw [if_neg (fun h => e h.symm)]
      rw [e2]
      omega
theorem cntC_two {C : Nat → Bool} {n i j : Nat} (hi : i < n) (hj : j < n) (hij : i ≠ j) (h1 : C i = false) (h2 : C j = false) : cntC C n + 1 < n := by
  rw [← cntC_set hi h1]
  exact cntC_lt hj (by unfold setC; rw [if_neg (fun e => hij e.symm)]; exact h2)
set_option maxHeartbeats 3200000 in
theorem rclok_any (k s t x : Int) (w : World) : Calls Tryz.prog 5 #[client4 k s t x] w fun e w' => e = .returned (.bool (clientB k s t x)) ∧ Below w.heap.size w w' := by
  by_cases h0 : 0 ≤ s
  case neg =>
    first | rw [show clientB _ _ _ _ = true from decide_eq_true (by omega)] | rw [show clientB _ _ _ _ = false from decide_eq_false (by omega)]
    go_enter Tryz.func5, Tryz.ntmps5
    go_wp2
    go_returns
    exact ⟨by simp; try omega, by go_grown⟩
  by_cases h1 : s ≤ 255
  case neg =>
    first | rw [show clientB _ _ _ _ = true from decide_eq_true (by omega)] | rw [show clientB _ _ _ _ = false from decide_eq_false (by omega)]
    go_enter Tryz.func5, Tryz.ntmps5
    go_wp2
    go_returns
    exact ⟨by simp; try omega, by go_grown⟩
  by_cases h2 : t ≤ 1099511627776
  case neg =>
    first | rw [show clientB _ _ _ _ = true from decide_eq_true (by omega)] | rw [show clientB _ _ _ _ = false from decide_eq_false (by omega)]
    go_enter Tryz.func5, Tryz.ntmps5
    go_wp2
    go_returns
    exact ⟨by simp; try omega, by go_grown⟩
  by_cases k2 : k = 2
  case pos =>
    subst k2
    by_cases g0 : t = 0
    case neg =>
      first | rw [show clientB _ _ _ _ = true from decide_eq_true (by omega)] | rw [show clientB _ _ _ _ = false from decide_eq_false (by omega)]
      go_enter Tryz.func5, Tryz.ntmps5
      go_wp2
      go_returns
      exact ⟨by simp; try omega, by go_grown⟩
    by_cases g1 : x = 0
    case neg =>
      first | rw [show clientB _ _ _ _ = true from decide_eq_true (by omega)] | rw [show clientB _ _ _ _ = false from decide_eq_false (by omega)]
      go_enter Tryz.func5, Tryz.ntmps5
      go_wp2
      go_returns
      exact ⟨by simp; try omega, by go_grown⟩
    subst g0
    subst g1
    first | rw [show clientB _ _ _ _ = true from decide_eq_true (by omega)] | rw [show clientB _ _ _ _ = false from decide_eq_false (by omega)]
    go_enter Tryz.func5, Tryz.ntmps5
    go_wp2
    go_returns
    exact ⟨by simp; try omega, by go_grown⟩
  by_cases k3 : k = 3
  case pos =>
    subst k3
    by_cases g0 : t = 0
    case neg =>
      first | rw [show clientB _ _ _ _ = true from decide_eq_true (by omega)] | rw [show clientB _ _ _ _ = false from decide_eq_false (by omega)]
      go_enter Tryz.func5, Tryz.ntmps5
      go_wp2
      go_returns
      exact ⟨by simp; try omega, by go_grown⟩
    by_cases g1 : x = 0
    case neg =>
      first | rw [show clientB _ _ _ _ = true from decide_eq_true (by omega)] | rw [show clientB _ _ _ _ = false from decide_eq_false (by omega)]
      go_enter Tryz.func5, Tryz.ntmps5
      go_wp2
      go_returns
      exact ⟨by simp; try omega, by go_grown⟩
    subst g0
    subst g1
    first | rw [show clientB _ _ _ _ = true from decide_eq_true (by omega)] | rw [show clientB _ _ _ _ = false from decide_eq_false (by omega)]
    go_enter Tryz.func5, Tryz.ntmps5
    go_wp2
    go_returns
    exact ⟨by simp; try omega, by go_grown⟩
  by_cases k1 : k = 1
  case pos =>
    subst k1
    first | rw [show clientB _ _ _ _ = true from decide_eq_true (by omega)] | rw [show clientB _ _ _ _ = false from decide_eq_false (by omega)]
    go_enter Tryz.func5, Tryz.ntmps5
    go_wp2
    go_returns
    exact ⟨by simp; try omega, by go_grown⟩
  first | rw [show clientB _ _ _ _ = true from decide_eq_true (by omega)] | rw [show clientB _ _ _ _ = false from decide_eq_false (by omega)]
  go_enter Tryz.func5, Tryz.ntmps5
  go_wp2
  go_returns
  exact ⟨by simp; try omega, by go_grown⟩
/-- An answer in a new place. -/
theorem ans_al (w : World) (v0 v1 v2 v3 v4 v5 v6 v7 : Value) : ∃ W, w.alloc (.cells #[v0, v1, v2, v3, v4, v5, v6, v7] 44) = W ∧ Below w.heap.size w W ∧ W.heap[w.heap.size]? = some (.cells [v0, v1, v2, v3, v4, v5, v6, v7].toArray 44 (0, 0)) :=
  ⟨_, rfl, below_alloc (Below.refl w.heap.size w) _, heap_alloc_new w _⟩
/-- An answer in a new place: the cells. -/
theorem ans_at {w W : World} {g : Nat} {v0 v1 v2 v3 v4 v5 v6 v7 : Value} (h : w.heap[g]? = some (.cells [v0, v1, v2, v3, v4, v5, v6, v7].toArray 44 (0, 0))) (hb : Below w.heap.size w W) :
    W.cell? ⟨g, 0, none⟩ = some v0 ∧ W.cell? ⟨g, 1, none⟩ = some v1 ∧ W.cell? ⟨g, 2, none⟩ = some v2 ∧ W.cell? ⟨g, 3, none⟩ = some v3 ∧ W.cell? ⟨g, 4, none⟩ = some v4 ∧ W.cell? ⟨g, 5, none⟩ = some v5 ∧ W.cell? ⟨g, 6, none⟩ = some v6 ∧ W.cell? ⟨g, 7, none⟩ = some v7 := by
  have hg : g < w.heap.size := (Array.getElem?_eq_some_iff.1 h).1
  have h2 := (hb.block g hg).trans h
  refine ⟨?_, ?_, ?_, ?_, ?_, ?_, ?_, ?_⟩ <;> (rw [cell_of_list h2]; rfl)
/-- A call that is under way. -/
def coG (n : Nat) (a id k s t x v : Int) (C : Nat → Bool) (G : List Gt) (tk : Int) : Co := ⟨n, a, id, k, s, t, x, v, C, cntC C n, G, tk, 0, 0, 0, 0, 0, 0, 0, 0, [], false⟩
theorem co0_coG (n : Nat) (a id k s t x v : Int) : co0 n a id k s t x v = coG n a id k s t x v (fun _ => false) [] 0 := by
  unfold co0 coG
  rw [cntC_none]
  rfl
section
variable {n : Nat} {a id k s t x v : Int} {C : Nat → Bool} {G : List Gt} {tk : Int} {m : Mg} {i : Nat}
theorem coG_k (hn : 1 ≤ n ∧ n ≤ 7) (hs : 0 ≤ s ∧ s ≤ 255) (ht : 0 ≤ tk ∧ tk ≤ 1000000) (hG : G.length ≤ 1000) : CoK (coG n a id k s t x v C G tk) := by
  have := cntC_le C n
  exact ⟨show 1 ≤ (n : Int) ∧ (n : Int) ≤ 7 by omega, hs, show 0 ≤ (cntC C n : Int) ∧ (cntC C n : Int) ≤ 1000 by omega, ht, fun _ => rfl, hG⟩
theorem refC_hit (hm : mokB m = true) (ht : m.t = a) (hid : m.id = id) (hf : m.f = (i : Int)) (hi : i < n) (hc : C i = false) : refC (coG n a id k s t x v C G tk) m = false := by
  unfold refC coG
  have hit : m.f.toNat = i := by omega
  simp only [Bool.or_eq_false_iff, Bool.not_eq_false', beq_iff_eq, decide_eq_false_iff_not]
  refine ⟨⟨⟨⟨⟨trivial, hm⟩, ht⟩, hid⟩, by rw [hf]; omega⟩, by rw [hit]; exact hc⟩
theorem con_twice (hf : m.f = (i : Int)) (hc : C i = true) : conR (coG n a id k s t x v C G tk) m = coG n a id k s t x v C G tk ∧ conB (coG n a id k s t x v C G tk) m = false := by
  have hit : m.f.toNat = i := by omega
  have hr : refC (coG n a id k s t x v C G tk) m = true := by
    unfold refC
    have : (coG n a id k s t x v C G tk).C m.f.toNat = true := by rw [hit]; exact hc
    simp [this]
  exact ⟨by unfold conR; rw [if_pos hr], by unfold conB; rw [hr]; rfl⟩
theorem refC_over {R : Co} (h : R.dn = true) : refC R m = true := by unfold refC; simp [h]
theorem refC_twice (hf : m.f = (i : Int)) (hc : C i = true) : refC (coG n a id k s t x v C G tk) m = true := by
  have hit : m.f.toNat = i := by omega
  unfold refC
  have : (coG n a id k s t x v C G tk).C m.f.toNat = true := by rw [hit]; exact hc
  simp [this]
theorem con_over {R : Co} (h : R.dn = true) : conR R m = R ∧ conB R m = false := by
  have hr : refC R m = true := by unfold refC; simp [h]
  exact ⟨by unfold conR; rw [if_pos hr], by unfold conB; rw [hr]; rfl⟩
/-- What one more makes of what was told. -/
def gotL (k : Int) (G : List Gt) (m : Mg) : List Gt := if k = 3 then G ++ [⟨m.n, none, 0, m.L⟩] else G
theorem gotL_len {k : Int} {G : List Gt} {m : Mg} : (gotL k G m).length ≤ G.length + 1 := by unfold gotL; split <;> simp
theorem con_more (hk : (k = 3 ∧ m.k = 5) ∨ (¬ k = 3 ∧ m.k = 2)) (hm : mokB m = true) (ht : m.t = a) (hid : m.id = id) (hf : m.f = (i : Int)) (hi : i < n) (hc : C i = false) (hq : cntC C n + 1 ≠ n / 2 + 1) :
    conR (coG n a id k s t x v C G tk) m = coG n a id k s t x v (setC C i) (gotL k G m) tk ∧ conB (coG n a id k s t x v C G tk) m = true := by
  have hr := refC_hit (k := k) (s := s) (t := t) (x := x) (v := v) (G := G) (tk := tk) hm ht hid hf hi hc
  have hit : m.f.toNat = i := by omega
  have hh : hitC (coG n a id k s t x v C G tk) m := hk
  have ho : ¬ oldB (coG n a id k s t x v C G tk) m := fun e => by
    have e1 : ¬ k = 3 := e.1
    have e2 := e.2
    rcases hk with h | h
    · exact e1 h.1
    · omega
  refine ⟨?_, ?_⟩
  · unfold conR
    rw [if_neg (by simp [hr])]
    unfold swC
    rw [if_neg ho, if_pos hh, hit]
    have e0 : gotC (coG n a id k s t x v C G tk) m = coG n a id k s t x v C (gotL k G m) tk := by
      unfold gotC gotL
      by_cases h3 : k = 3
      · rw [if_pos (show (coG n a id k s t x v C G tk).ck = 3 from h3), if_pos h3]; rfl
      · rw [if_neg (show ¬ (coG n a id k s t x v C G tk).ck = 3 from h3), if_neg h3]
    rw [e0]
    unfold goC
    rw [if_neg (show ¬ ((coG n a id k s t x v C (gotL k G m) tk).cnt + 1 = (coG n a id k s t x v C (gotL k G m) tk).n / 2 + 1) from by show ¬ ((cntC C n : Int) + 1 = (n : Int) / 2 + 1); omega)]
    unfold countC markC coG
    rw [cntC_set hi hc]
    rfl
  · unfold conB swB
    rw [hr]
    simp [hh]
theorem con_ends (hk : (k = 3 ∧ m.k = 5) ∨ (¬ k = 3 ∧ m.k = 2)) (hm : mokB m = true) (ht : m.t = a) (hid : m.id = id) (hf : m.f = (i : Int)) (hi : i < n) (hc : C i = false) (hq : cntC C n + 1 = n / 2 + 1) :
    conR (coG n a id k s t x v C G tk) m = end1C (coG n a id k s t x v (setC C i) (gotL k G m) tk) 0 v (itemsC (gotL k G m) s) ∧ conB (coG n a id k s t x v C G tk) m = true := by
  have hr := refC_hit (k := k) (s := s) (t := t) (x := x) (v := v) (G := G) (tk := tk) hm ht hid hf hi hc
  have hit : m.f.toNat = i := by omega
  have hh : hitC (coG n a id k s t x v C G tk) m := hk
  have ho : ¬ oldB (coG n a id k s t x v C G tk) m := fun e => by
    have e1 : ¬ k = 3 := e.1
    have e2 := e.2
    rcases hk with h | h
    · exact e1 h.1
    · omega
  refine ⟨?_, ?_⟩
  · unfold conR
    rw [if_neg (by simp [hr])]
    unfold swC
    rw [if_neg ho, if_pos hh, hit]
    have e0 : gotC (coG n a id k s t x v C G tk) m = coG n a id k s t x v C (gotL k G m) tk := by
      unfold gotC gotL
      by_cases h3 : k = 3
      · rw [if_pos (show (coG n a id k s t x v C G tk).ck = 3 from h3), if_pos h3]; rfl
      · rw [if_neg (show ¬ (coG n a id k s t x v C G tk).ck = 3 from h3), if_neg h3]
    rw [e0]
    unfold goC
    rw [if_pos (show ((coG n a id k s t x v C (gotL k G m) tk).cnt + 1 = (coG n a id k s t x v C (gotL k G m) tk).n / 2 + 1) from by show ((cntC C n : Int) + 1 = (n : Int) / 2 + 1); omega)]
    have e1 : countC (coG n a id k s t x v C (gotL k G m) tk) i = coG n a id k s t x v (setC C i) (gotL k G m) tk := by
      unfold countC markC coG
      rw [cntC_set hi hc]
      rfl
    rw [e1]
    rfl
  · unfold conB swB
    rw [hr]
    simp [hh]
theorem con_aged (hk : ¬ k = 3) (hk3 : m.k = 3) (hm : mokB m = true) (ht : m.t = a) (hid : m.id = id) (hf : m.f = (i : Int)) (hi : i < n) (hc : C i = false) :
    conR (coG n a id k s t x v C G tk) m = end1C (coG n a id k s t x v C G tk) 21 m.n [] ∧ conB (coG n a id k s t x v C G tk) m = true := by
  have hr := refC_hit (k := k) (s := s) (t := t) (x := x) (v := v) (G := G) (tk := tk) hm ht hid hf hi hc
  have ho : oldB (coG n a id k s t x v C G tk) m := ⟨hk, hk3⟩
  refine ⟨?_, ?_⟩
  · unfold conR
    rw [if_neg (by simp [hr])]
    unfold swC
    rw [if_pos ho]
  · unfold conB swB
    rw [hr]
    simp [ho]
theorem con_else (hk : ¬ ((k = 3 ∧ m.k = 5) ∨ (¬ k = 3 ∧ m.k = 2))) (hk3 : ¬ (¬ k = 3 ∧ m.k = 3)) : conR (coG n a id k s t x v C G tk) m = coG n a id k s t x v C G tk ∧ conB (coG n a id k s t x v C G tk) m = false := by
  have hh : ¬ hitC (coG n a id k s t x v C G tk) m := hk
  have ho : ¬ oldB (coG n a id k s t x v C G tk) m := hk3
  refine ⟨?_, ?_⟩
  · unfold conR swC
    rw [if_neg ho, if_neg hh]
    split <;> rfl
  · unfold conB swB
    simp [hh, ho]
theorem ctick_more (h : tk + 1 ≠ 20) : ctickR (coG n a id k s t x v C G tk) = coG n a id k s t x v C G (tk + 1) := by
  unfold ctickR
  rw [if_neg (by simp [coG]), if_neg (show ¬ ((coG n a id k s t x v C G tk).tk + 1 = 20) from h)]
  rfl
theorem ctick_late (h : tk + 1 = 20) : ctickR (coG n a id k s t x v C G tk) = end1C (coG n a id k s t x v C G (tk + 1)) 20 v [] := by
  unfold ctickR
  rw [if_neg (by simp [coG]), if_pos (show ((coG n a id k s t x v C G tk).tk + 1 = 20) from h)]
  rfl
theorem ctick_over {R : Co} (h : R.dn = true) : ctickR R = R ∧ ctickM R = [] := ⟨by unfold ctickR; rw [if_pos h], by unfold ctickM; rw [if_pos h]⟩
theorem filter_cnt (C : Nat → Bool) : ∀ n, ((List.range n).filter fun j => !C j).length + cntC C n = n
  | 0 => rfl
  | n + 1 => by
    have h := filter_cnt C n
    rw [List.range_succ, List.filter_append, List.length_append]
    unfold cntC
    cases hc : C n <;> simp [hc] <;> omega
theorem ctick_len : (ctickM (coG n a id k s t x v C G tk)).length = if tk + 1 ≠ 20 ∧ (tk + 1) % 3 = 0 then n - cntC C n else 0 := by
  unfold ctickM
  rw [if_neg (by simp [coG])]
  by_cases h1 : tk + 1 = 20
  · rw [if_pos (show (coG n a id k s t x v C G tk).tk + 1 = 20 from h1), if_neg (by simp [h1])]
    rfl
  · rw [if_neg (show ¬ (coG n a id k s t x v C G tk).tk + 1 = 20 from h1)]
    by_cases h2 : (tk + 1) % 3 = 0
    · rw [if_pos (show ((coG n a id k s t x v C G tk).tk + 1) % 3 = 0 from h2), if_pos ⟨h1, h2⟩]
      unfold csendTo
      rw [List.length_map]
      have h := filter_cnt C n
      show ((List.range ((n : Int).toNat)).filter fun j => !C j).length = _
      rw [Int.toNat_natCast]
      omega
    · rw [if_neg (show ¬ ((coG n a id k s t x v C G tk).tk + 1) % 3 = 0 from h2), if_neg (fun e => h2 e.2)]
      rfl
end
/-- One of the calls, whatever its blocks. -/
def CoE (w0 w : World) (b : Nat) (R : Co) : Prop := ∃ X, CoO w0 w b X R
theorem CoO.from {w00 w0 w : World} {b : Nat} {X : Nat → Prop} {R : Co} (h : CoO w0 w b X R) (hb : Below w00.heap.size w00 w0) : CoO w00 w b X R :=
  ⟨h.row, ⟨h.low.os.trans hb.os, h.low.tape.trans hb.tape, h.low.output.trans hb.output, Nat.le_trans hb.size h.low.size, fun i hi => (h.low.block i (Nat.lt_of_lt_of_le hi hb.size)).trans (hb.block i hi)⟩, h.xb, fun g hg => ⟨Nat.le_trans hb.size (h.xs g hg).1, (h.xs g hg).2⟩⟩
theorem CoE.below {w0 w w' : World} {b : Nat} {R : Co} (h : CoE w0 w b R) (hb : Below w.heap.size w w') : CoE w0 w' b R := by
  obtain ⟨X, h⟩ := h
  exact ⟨X, h.below hb⟩
theorem CoE.low {w0 w : World} {b : Nat} {R : Co} (h : CoE w0 w b R) : Below w0.heap.size w0 w := by
  obtain ⟨X, h⟩ := h
  exact h.low
theorem con_e {w0 w : World} {b : Nat} {R R' : Co} {B : Bool} (h : CoE w0 w b R) (k : CoK R) (m : Mg) (hm : m.rd w0) (e1 : conR R m = R') (e2 : conB R m = B) (hI : refC R m = false → hitC R m → R.cnt + 1 = R.n / 2 + 1 → ItemsH b (gotC R m).G R.cs) :
    Calls Tryz.prog 14 #[.pointer (some ⟨b, 0, none⟩), m.val] w fun e w' => e = .returned (.bool B) ∧ CoE w0 w' b R' := by
  subst e1
  subst e2
  have hl : m.L.length ≤ 9223372036854775807 := by
    have h1 := hm.2
    unfold maxLen at h1
    omega
  obtain ⟨X, h⟩ := h
  refine Calls.mono (con_any h m hm hl k hI) ?_
  rintro e w' ⟨h1, h2, h3⟩
  exact ⟨h1, _, h2⟩
theorem ctick_e {w0 w : World} {b : Nat} {R R' : Co} {M : List Mg} (h : CoE w0 w b R) (k : CoK R) (e1 : ctickR R = R') (e2 : ctickM R = M) :
    Calls Tryz.prog 15 #[.pointer (some ⟨b, 0, none⟩)] w fun e w' => ∃ A c, ∃ N : List Mg, e = .returned (.slice A N.length c) ∧ CoE w0 w' b R' ∧ N.map Mg.bare = M := by
  subst e1
  subst e2
  obtain ⟨X, h⟩ := h
  refine Calls.mono (ctick_any h k.n k.cs k.tk k.d) ?_
  rintro e w' ⟨v, N, rfl, h1, h2, h3, _⟩
  obtain ⟨A, c, rfl, _, _, _⟩ := OwnL.row Mg.cells_len h2.own
  exact ⟨A, c, N, rfl, ⟨_, h1⟩, h3⟩
theorem cdone_e {w0 w : World} {b : Nat} {R : Co} (h : CoE w0 w b R) (hl : R.AL.length ≤ 1099511627776) :
    Calls Tryz.prog 17 #[.pointer (some ⟨b, 0, none⟩)] w fun e w' => ∃ A c, e = .returned (.tuple #[ansC R (.slice A R.AL.length c), .bool R.dn]) ∧ CoE w0 w' b R ∧ Ow w.heap.size w' (.slice A R.AL.length c) R.AL ∧ Below w.heap.size w w' := by
  obtain ⟨X, h⟩ := h
  refine Calls.mono (cdone_any h hl) ?_
  rintro e w' ⟨v, rfl, h1, h2⟩
  obtain ⟨A, c, rfl, _, _, _⟩ := OwnL.row It.cells_len h1
  exact ⟨A, c, rfl, ⟨X, h.below h2⟩, h1, h2⟩
set_option maxRecDepth 100000 in
set_option maxHeartbeats 1600000 in
theorem cawake_any (w : World) : Calls Tryz.prog 8 #[] w fun e w' => e = .returned (.bool true) ∧ Below w.heap.size w w' := by
  go_enter Tryz.func8, Tryz.ntmps8
  go_wp2_with fail
  refine (Calls.mono (cnew_co 3 0 7 3 4 0 0 0 _ (by decide)) ?_); rintro e w1 ⟨b, rfl, h1⟩
  have H1 := hide h1
  clear h1
  go_wp2_with fail
  refine (Calls.mono (cnew_no 3 3 7 3 0 0 0 0 _ (by decide)) ?_); rintro e w2 ⟨rfl, hb2⟩
  have H2 := hide (H1.out.below hb2)
  clear hb2
  go_wp2_with fail
  refine (Calls.mono (csends_any H2.out (by decide) (by decide)) ?_); rintro e w3 ⟨v, N, rfl, hO, hN, hb3⟩
  obtain ⟨A, c, rfl, hr, _, _⟩ := OwnL.row Mg.cells_len hO.own
  have H3 := hide (H2.out.below hb3)
  have hln : N.length = 3 := by
    have := congrArg List.length hN
    rw [List.length_map] at this
    rw [this]
    decide
  obtain ⟨x0, x1, x2, rfl⟩ : ∃ x0 x1 x2, N = [x0, x1, x2] := by
    match N, hln with
    | [a, b, c], _ => exact ⟨a, b, c, rfl⟩
  have hx : x2.k = 4 ∧ x2.f = 0 ∧ x2.t = 2 ∧ x2.id = 7 ∧ x2.n = 4 ∧ x2.L = [] := by
    have hs : csendTo (allR (co0 3 0 7 3 4 0 0 0)) (co0 3 0 7 3 4 0 0 0).n.toNat = [⟨4, 0, 0, 7, 4, none, 0, []⟩, ⟨4, 0, 1, 7, 4, none, 0, []⟩, ⟨4, 0, 2, 7, 4, none, 0, []⟩] := rfl
    rw [hs] at hN
    simp only [List.map_cons, List.map_nil, List.cons.injEq] at hN
    have e := hN.2.2.1
    unfold Mg.bare at e
    injection e with e1 e2 e3 e4 e5 e6 e7 e8
    exact ⟨e1, e2, e3, e4, e5, e8⟩
  obtain ⟨g, off, rfl, hlt, hc⟩ := hr.at_ (k := 2) (by simp)
  obtain ⟨x1k, x1f, x1t, x1id, x1n, x1L⟩ := hx
  have cl : ∀ (j : Nat) (u : Value), (Mg.cells x2)[j]? = some u → w3.cell? ⟨g, off + 2 * 6 + j, none⟩ = some u := fun j u hu => hc 2 (by simp) j u hu
  have m0 : w3.cell? ⟨g, off + 12, none⟩ = some (.int .i64 4) := by rw [← x1k]; exact cl 0 _ rfl
  have m2 : w3.cell? ⟨g, off + 14, none⟩ = some (.int .i64 2) := by rw [← x1t]; exact cl 2 _ rfl
  have m3 : w3.cell? ⟨g, off + 15, none⟩ = some (.int .u64 7) := by rw [← x1id]; exact cl 3 _ rfl
  have m4 : w3.cell? ⟨g, off + 16, none⟩ = some (.int .u64 4) := by rw [← x1n]; exact cl 4 _ rfl
  have HLW := hide H3.out.low
  clear hO hN hb3 hr hln x1k x1f x1t x1id x1n x1L hc cl
  go_wp2_with ((with_reducible refine (cneed_any _ _ (by omega) (by omega)).mono ?_); rintro e w4 ⟨rfl, hg4⟩; have HB4 := hide hg4; have m0 := keep_cell HB4.out m0 hlt; have m2 := keep_cell HB4.out m2 hlt; have m3 := keep_cell HB4.out m3 hlt; have m4 := keep_cell HB4.out m4 hlt; clear hg4)
  go_ret
  exact ⟨rfl, below_step HLW.out HB4.out⟩
end Go.Proofs.YtlabpgdimhbocaaGreat
