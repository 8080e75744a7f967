/- round.Round's calls as a law makes them; an answer in a place of its own. Conditions: the round as it lies. -/
import Derived.Test.YtikecafblampeaaRndL
namespace Go.Proofs.Ytikecafblampeaa
set_option linter.unusedVariables false
set_option linter.unusedSimpArgs false
open Go.ChangeShapes Go.WideShapes Go.ChangeAt Go.RowKit
theorem joinL_nn : joinL [] [] = [] := by rw [joinL_nil]; rfl
/-- What a round tells, in a row of one's own. -/
def Told (w0 w : World) (b : Nat) (R : Rs) (M : List Mg) (e : Ending) (w' : World) : Prop := ∃ A c N, e = .returned (.slice A N.length c) ∧ RndO w0 w' b R ∧ MsO w.heap.size w' (.slice A N.length c) N ∧ N.map Mg.bare = M ∧ RowAt Mg.cells 6 w' A N
theorem Told.of {w0 w w' : World} {b : Nat} {R : Rs} {M : List Mg} {e : Ending} (h : ∃ v N, e = .returned v ∧ RndO w0 w' b R ∧ MsO w.heap.size w' v N ∧ N.map Mg.bare = M) : Told w0 w b R M e w' := by
  obtain ⟨v, N, rfl, h1, h2, h3⟩ := h
  obtain ⟨A, c, rfl, hr, _, _⟩ := OwnL.row Mg.cells_len h2.own
  exact ⟨A, c, N, rfl, h1, h2, h3, hr⟩
/-- What a round is, for its calls. -/
structure RndK (R : Rs) : Prop where
  n : 1 ≤ R.n ∧ R.n ≤ 7
  ph : R.ph = 1 ∨ R.ph = 2 ∨ R.ph = 3
  L : R.L.length ≤ 274877906944
  cnt : 0 ≤ R.cnt ∧ R.cnt ≤ 1000
  tk : 0 ≤ R.tk ∧ R.tk ≤ 1000000
theorem ron_to {w0 w : World} {b : Nat} {R R' : Rs} {M : List Mg} (h : RndO w0 w b R) (k : RndK R) (m : Mg) (hm : m.rd w0) (e1 : onR R m = R') (e2 : onM R m = M) :
    Calls Try.prog 10 #[.pointer (some ⟨b, 0, none⟩), m.val] w (Told w0 w b R' M) := by
  subst e1
  subst e2
  have hl : m.L.length ≤ 9223372036854775807 := by
    have h1 := hm.2
    unfold maxLen at h1
    omega
  refine Calls.mono (ron_any h m hm hl k.n k.ph k.L k.cnt) ?_
  rintro e w' ⟨v, N, h1, h2, h3, h4, _⟩
  exact Told.of ⟨v, N, h1, h2, h3, h4⟩
theorem rtick_to {w0 w : World} {b : Nat} {R R' : Rs} {M : List Mg} (h : RndO w0 w b R) (k : RndK R) (e1 : tickR R = R') (e2 : tickM R = M) :
    Calls Try.prog 19 #[.pointer (some ⟨b, 0, none⟩)] w (Told w0 w b R' M) := by
  subst e1
  subst e2
  have hl := k.L
  refine Calls.mono (rtick_any h (by omega) k.ph k.n k.tk) ?_
  rintro e w' ⟨v, N, h1, h2, h3, h4, _⟩
  exact Told.of ⟨v, N, h1, h2, h3, h4⟩
theorem rsends_to {w0 w : World} {b : Nat} {R : Rs} {M : List Mg} (h : RndO w0 w b R) (k : RndK R) (e2 : sendR R true = M) :
    Calls Try.prog 20 #[.pointer (some ⟨b, 0, none⟩)] w (Told w0 w b R M) := by
  subst e2
  have hl := k.L
  refine Calls.mono (rsends_any h (by omega) k.ph k.n) ?_
  rintro e w' ⟨v, N, h1, h3, h4, h5⟩
  exact Told.of ⟨v, N, h1, h.below h5, h3, h4⟩
theorem tick_end {R : Rs} (h : R.ph = 3) : tickR R = R ∧ tickM R = [] := ⟨by unfold tickR; rw [if_pos h], by unfold tickM; rw [if_pos h]⟩
theorem send_end {R : Rs} (h : R.ph = 3) (all : Bool) : sendR R all = [] := by unfold sendR; rw [if_pos h]
theorem told_nil {N : List Mg} (h : N.map Mg.bare = []) : N = [] := by simpa using h
section
variable {n : Nat} {a id f p : Int} {C : Nat → Bool} {L : List It} {tk e v : Int}
theorem stG_k (hn : 1 ≤ n ∧ n ≤ 7) (hp : p = 1 ∨ p = 2) (hL : L.length ≤ 274877906944) (ht : 0 ≤ tk ∧ tk ≤ 1000000) : RndK (stG n a id f p C L tk) := by
  have := cntC_le C n
  exact ⟨show 1 ≤ (n : Int) ∧ (n : Int) ≤ 7 by omega, show p = 1 ∨ p = 2 ∨ p = 3 by omega, hL, show 0 ≤ (cntC C n : Int) ∧ (cntC C n : Int) ≤ 1000 by omega, ht⟩
theorem endG_k (hn : 1 ≤ n ∧ n ≤ 7) (hL : L.length ≤ 274877906944) (ht : 0 ≤ tk ∧ tk ≤ 1000000) : RndK (endG n a id f C L tk e v) := by
  have := cntC_le C n
  exact ⟨show 1 ≤ (n : Int) ∧ (n : Int) ≤ 7 by omega, .inr (.inr rfl), hL, show 0 ≤ (cntC C n : Int) ∧ (cntC C n : Int) ≤ 1000 by omega, ht⟩
end
/-- All of the first k but q. -/
def upC (k q : Nat) : Nat → Bool := fun j => decide (j < k) && !decide (j = q)
theorem upC_zero (q : Nat) : upC 0 q = fun _ => false := by funext j; simp [upC]
theorem upC_set {k q : Nat} (h : k ≠ q) : setC (upC k q) k = upC (k + 1) q := by
  funext j
  unfold setC upC
  by_cases e : j = k
  · subst e
    simp [h]
  · rw [if_neg e]
    have : decide (j < k) = decide (j < k + 1) := by
      by_cases e2 : j < k
      · rw [decide_eq_true e2, decide_eq_true (by omega)]
      · rw [decide_eq_false e2, decide_eq_false (by omega)]
    rw [this]
theorem upC_skip (q : Nat) : upC (q + 1) q = upC q q := by
  funext j
  unfold upC
  by_cases e : j = q
  · subst e
    simp
  · have : decide (j < q + 1) = decide (j < q) := by
      by_cases e2 : j < q
      · rw [decide_eq_true e2, decide_eq_true (by omega)]
      · rw [decide_eq_false e2, decide_eq_false (by omega)]
    rw [this]
theorem upC_at (k q : Nat) : upC k q k = false := by simp [upC]
theorem upC_q (k q : Nat) : upC k q q = false := by simp [upC]
theorem upC_far {k q j : Nat} (h : k ≤ j) : upC k q j = false := by unfold upC; rw [decide_eq_false (by omega)]; rfl
theorem upC_yes {k q j : Nat} (h : j < k) (hq : j ≠ q) : upC k q j = true := by simp [upC, h, hq]
theorem filter_up (q : Nat) (C : Nat → Bool) : ∀ n, (∀ j, j < n → C j = !decide (j = q)) → (List.range n).filter (fun j => !C j) = if q < n then [q] else []
  | 0, _ => by simp
  | n + 1, h => by
    rw [List.range_succ, List.filter_append, filter_up q C n (fun j hj => h j (by omega))]
    by_cases e : q = n
    · subst e
      simp [h q (by omega)]
    · have hn := h n (by omega)
      rw [decide_eq_false (fun x => e x.symm)] at hn
      by_cases e2 : q < n
      · rw [if_pos e2, if_pos (by omega)]
        simp [hn]
      · rw [if_neg e2, if_neg (by omega)]
        simp [hn]
theorem send_one {R : Rs} {n q : Nat} (hq : q < n) (h : ∀ j, j < n → R.C j = !decide (j = q)) : sendTo R false n = [toM R (q : Int) (kindR R)] := by
  unfold sendTo
  have := filter_up q R.C n h
  rw [if_pos hq] at this
  simp only [Bool.false_or]
  rw [this]
  rfl
/-- An answer stored in a new place. -/
theorem ans_put (w : World) (v0 v1 v2 v3 v4 v5 v6 v7 : Value) : ∃ W, ((((((((w.alloc (.cells #[.int .u64 0, .int .i64 0, .int .i64 0, .int .u64 0, .int .i64 0, .int .i64 0, .int .u64 0, .slice none 0 0] 47)).setCell ⟨w.heap.size, 0, none⟩ v0).setCell ⟨w.heap.size, 1, none⟩ v1).setCell ⟨w.heap.size, 2, none⟩ v2).setCell ⟨w.heap.size, 3, none⟩ v3).setCell ⟨w.heap.size, 4, none⟩ v4).setCell ⟨w.heap.size, 5, none⟩ v5).setCell ⟨w.heap.size, 6, none⟩ v6).setCell ⟨w.heap.size, 7, none⟩ v7 = W ∧ Below w.heap.size w W ∧ W.heap[w.heap.size]? = some (.cells [v0, v1, v2, v3, v4, v5, v6, v7].toArray 47 (0, 0)) := by
  have hz : (w.alloc (.cells #[.int .u64 0, .int .i64 0, .int .i64 0, .int .u64 0, .int .i64 0, .int .i64 0, .int .u64 0, .slice none 0 0] 47)).heap[w.heap.size]? = some (.cells [.int .u64 0, .int .i64 0, .int .i64 0, .int .u64 0, .int .i64 0, .int .i64 0, .int .u64 0, .slice none 0 0].toArray 47 (0, 0)) := heap_alloc_new w _
  have ha := below_alloc (Below.refl w.heap.size w) (.cells #[.int .u64 0, .int .i64 0, .int .i64 0, .int .u64 0, .int .i64 0, .int .i64 0, .int .u64 0, .slice none 0 0] 47)
  generalize w.alloc (.cells #[.int .u64 0, .int .i64 0, .int .i64 0, .int .u64 0, .int .i64 0, .int .i64 0, .int .u64 0, .slice none 0 0] 47) = w1 at *
  have hsz := ha.size
  generalize w.heap.size = g at *
  refine ⟨_, rfl, Sets.below ha ((((((((Sets.refl (S := fun c => c = g) w1).set (g := g) (fun _ => rfl) 0 v0).set (g := g) (fun _ => rfl) 1 v1).set (g := g) (fun _ => rfl) 2 v2).set (g := g) (fun _ => rfl) 3 v3).set (g := g) (fun _ => rfl) 4 v4).set (g := g) (fun _ => rfl) 5 v5).set (g := g) (fun _ => rfl) 6 v6 |>.set (g := g) (fun _ => rfl) 7 v7) (fun c e => by rw [e]; exact Nat.le_refl _) hsz, ?_⟩
  exact set_of_list (o := 7) (set_of_list (o := 6) (set_of_list (o := 5) (set_of_list (o := 4) (set_of_list (o := 3) (set_of_list (o := 2) (set_of_list (o := 1) (set_of_list (o := 0) hz v0) v1) v2) v3) v4) v5) v6) v7
theorem ans_new (w : World) : (∀ k < 8, ∃ u, (w.alloc (.cells #[.int .u64 0, .int .i64 0, .int .i64 0, .int .u64 0, .int .i64 0, .int .i64 0, .int .u64 0, .slice none 0 0] 47)).cell? ⟨w.heap.size, k, none⟩ = some u) := by
  intro k hk
  have hz : (w.alloc (.cells #[.int .u64 0, .int .i64 0, .int .i64 0, .int .u64 0, .int .i64 0, .int .i64 0, .int .u64 0, .slice none 0 0] 47)).heap[w.heap.size]? = some (.cells [.int .u64 0, .int .i64 0, .int .i64 0, .int .u64 0, .int .i64 0, .int .i64 0, .int .u64 0, .slice none 0 0].toArray 47 (0, 0)) := heap_alloc_new w _
  rw [cell_of_list hz]
  exact ⟨_, List.getElem?_eq_getElem (by simpa using hk)⟩
end Go.Proofs.Ytikecafblampeaa
