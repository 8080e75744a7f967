/- Trees of lists that differ in one series: plain facts. No program's function occurs here; conditions typed. -/
import Derived.Test.YthpbohheddkfiaaTAwake
import Derived.Test.YthpbohheddkfiaaBits
import Derived.Test.YthpbohheddkfiaaRSt2
namespace Go.Proofs.Ythpbohheddkfiaa
set_option linter.unusedVariables false
set_option linter.unusedSimpArgs false
open Go.ChangeShapes Go.WideShapes Go.ChangeAt Go.RowKit

theorem half_ne {s l i : Nat} (h : i ≠ s / 2 ^ (l + 1)) : 2 * i ≠ s / 2 ^ l ∧ 2 * i + 1 ≠ s / 2 ^ l := by
  have e : s / 2 ^ (l + 1) = s / 2 ^ l / 2 := by rw [Nat.pow_succ, Nat.div_div_eq_div_mul]
  constructor <;> (intro h2; rw [e] at h; omega)
theorem half_eq (s l : Nat) : (s / 2 ^ l = 2 * (s / 2 ^ (l + 1)) ∨ s / 2 ^ l = 2 * (s / 2 ^ (l + 1)) + 1) := by
  have e : s / 2 ^ (l + 1) = s / 2 ^ l / 2 := by rw [Nat.pow_succ, Nat.div_div_eq_div_mul]
  rw [e]
  omega
theorem nodeT_apart {F G : Nat → List It} {s : Nat} (h : ∀ t, t ≠ s → F t = G t) : ∀ l i, i ≠ s / 2 ^ l → nodeT F l i = nodeT G l i
  | 0, i, hi => by
    show leafT (F i) = leafT (G i)
    rw [h i (by simpa using hi)]
  | l + 1, i, hi => by
    show mixL (nodeT F l (2 * i)) (nodeT F l (2 * i + 1)) = mixL (nodeT G l (2 * i)) (nodeT G l (2 * i + 1))
    rw [nodeT_apart h l _ (half_ne hi).1, nodeT_apart h l _ (half_ne hi).2]
theorem difL_one {E : Nat → Nat → Bool} {s : Nat} (h : ∀ l i, i ≠ s / 2 ^ l → E l i = true) : ∀ l i, difL E l i = [] ∨ (i = s / 2 ^ l ∧ difL E l i = [s])
  | 0, i => by
    cases he : E 0 i with
    | true => exact .inl (dif_same he)
    | false =>
      have hi : i = s := Decidable.byContradiction fun hn => by rw [h 0 i (by simpa using hn)] at he; cases he
      exact .inr ⟨by simpa using hi, by rw [dif_leaf he, hi]⟩
  | l + 1, i => by
    cases he : E (l + 1) i with
    | true => exact .inl (dif_same he)
    | false =>
      have hi : i = s / 2 ^ (l + 1) := Decidable.byContradiction fun hn => by rw [h (l + 1) i hn] at he; cases he
      rw [dif_no he]
      rcases difL_one h l (2 * i) with e1 | ⟨e1, e1'⟩
      · rcases difL_one h l (2 * i + 1) with e2 | ⟨e2, e2'⟩
        · left; rw [e1, e2]; rfl
        · right; exact ⟨hi, by rw [e1, e2']; rfl⟩
      · have e2 : difL E l (2 * i + 1) = [] := dif_same (h l _ (by omega))
        right
        exact ⟨hi, by rw [e1', e2]; rfl⟩
theorem sameN_self {a c : Nat} {F : Nat → List It} (l i : Nat) : sameN (some a) (some c) F F l i = true := same_is rfl
theorem difL_self {a c : Nat} {F : Nat → List It} : difL (sameN (some a) (some c) F F) 8 0 = [] := dif_same (sameN_self 8 0)
theorem dif_apart {a c : Nat} {F G : Nat → List It} {s : Nat} (h : ∀ t, t ≠ s → F t = G t) : difL (sameN (some a) (some c) F G) 8 0 = [] ∨ difL (sameN (some a) (some c) F G) 8 0 = [s] := by
  rcases difL_one (s := s) (fun l i hi => same_is (nodeT_apart h l i hi)) 8 0 with e | ⟨_, e⟩
  · exact .inl e
  · exact .inr e
/-- An item with another value. -/
def withX (y : It) (v : Int) : It := { y with x := v }
theorem serL_set {Q : List It} {k : Nat} (hk : k < Q.length) (v : Int) {t : Nat} (ht : (Q[k]).s ≠ (t : Int)) : serL (Q.set k (withX Q[k] v)) t = serL Q t := by
  unfold serL
  have e1 : Q = Q.take k ++ Q[k] :: Q.drop (k + 1) := by rw [List.getElem_cons_drop, List.take_append_drop]
  have e2 : Q.set k (withX Q[k] v) = Q.take k ++ withX Q[k] v :: Q.drop (k + 1) := by rw [List.set_eq_take_append_cons_drop, if_pos hk]
  have d1 : decide ((Q[k]).s = (t : Int)) = false := decide_eq_false ht
  have d2 : decide ((withX Q[k] v).s = (t : Int)) = false := d1
  rw [e2]
  conv => rhs; rw [e1]
  rw [List.filter_append, List.filter_append, List.filter_cons, List.filter_cons, d1, d2]
  rfl
theorem mem_ofL {l : List It} {x : It} (h : x ∈ ofL l) : x ∈ l ∧ It.good x := by
  have h1 := (((ofL_isOf l).mem x).1 h).1
  exact ⟨(List.mem_filter.1 h1).1, (ofL_state l).1 x h⟩
theorem good_s {x : It} (h : It.good x) : 0 ≤ x.s ∧ x.s ≤ 255 := by unfold It.good at h; omega
theorem serL_wf {Q : List It} (h : ∀ x ∈ Q, x.wf) : ∀ s, s < 256 → ∀ x ∈ serL Q s, x.wf := fun s _ x hx => h x (List.mem_filter.1 hx).1
theorem serL_2000 {Q : List It} (h : Q.length ≤ 2000) : ∀ s, s < 256 → (serL Q s).length ≤ 2000 := fun s _ => Nat.le_trans (serL_le Q s) h
/-- One item's value is written in its place. -/
theorem items_setX {w : World} {g : Nat} {L : List It} (h : ItemsAt w (some ⟨g, 0, none⟩) L) {k : Nat} (hk : k < L.length) (v : Int) : ItemsAt (w.setCell ⟨g, k * 5 + 4, none⟩ (.int .i64 v)) (some ⟨g, 0, none⟩) (L.set k (withX L[k] v)) := fun hn => by
  have hL : L ≠ [] := fun e => by rw [e] at hk; simp at hk
  obtain ⟨g', off', e, hlt, hc⟩ := h hL
  obtain ⟨rfl, rfl⟩ : g = g' ∧ 0 = off' := by injection e with h; injection h; exact ⟨by assumption, by assumption⟩
  have hsz : (w.setCell ⟨g, k * 5 + 4, none⟩ (.int .i64 v)).heap.size = w.heap.size := by simp [World.setCell]
  refine ⟨g, 0, rfl, by rw [hsz]; exact hlt, fun i hi j u hu => ?_⟩
  have hi2 : i < L.length := by rw [List.length_set] at hi; exact hi
  have hj : j < 5 := by
    have := (List.getElem?_eq_some_iff.1 hu).1
    rw [It.cells_len] at this
    exact this
  have h4 : (L[k]'hk).cells[4]? = some (.int .i64 (L[k]'hk).x) := rfl
  by_cases e : i = k
  · subst e
    rw [List.getElem_set_self] at hu
    by_cases e4 : j = 4
    · subst e4
      have hu2 : u = .int .i64 v := by
        have : (It.cells (withX L[i] v))[4]? = some (.int .i64 v) := rfl
        rw [this] at hu
        exact (Option.some.inj hu).symm
      rw [hu2, show 0 + i * 5 + 4 = i * 5 + 4 by omega]
      exact World.cell?_setCell_same w _ _ (by have := hc i hi2 4 _ h4; rw [show 0 + i * 5 + 4 = i * 5 + 4 by omega] at this; exact this)
    · have hu3 : (L[i]'hi2).cells[j]? = some u := by
        rw [← hu]
        unfold It.cells withX
        have h5 : j = 0 ∨ j = 1 ∨ j = 2 ∨ j = 3 := by omega
        rcases h5 with rfl | rfl | rfl | rfl <;> rfl
      rw [World.cell?_setCell_other _ _ _ _ (by intro h; injection h with _ h2; omega)]
      exact hc i hi2 j u hu3
  · rw [List.getElem_set_ne (fun e' => e e'.symm)] at hu
    rw [World.cell?_setCell_other _ _ _ _ (by intro h; injection h with _ h2; omega)]
    exact hc i hi2 j u hu
end Go.Proofs.Ythpbohheddkfiaa
