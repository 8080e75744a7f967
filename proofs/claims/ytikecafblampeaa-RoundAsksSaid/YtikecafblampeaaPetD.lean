/- net.Net: Double, Turn: contracts. Conditions: the net as it lies. -/
import Derived.Test.YtikecafblampeaaPetS
namespace Go.Proofs.Ytikecafblampeaa
set_option linter.unusedVariables false
set_option linter.unusedSimpArgs false
open Go.ChangeShapes Go.WideShapes Go.ChangeAt Go.RowKit
variable {Fr : Nat → Prop}

theorem hasB_yes {n i : Nat} (h : i < n) : hasB n (i : Int) = true := by simp [hasB, h]
theorem row6 {base : Nat} {w : World} {g n c : Nat} {M : List Mg} (h : OwnL Mg.cells 6 30 base w (.slice (some ⟨g, 0, none⟩) n c) M) {t : Nat} (ht : t < M.length) : w.cell? ⟨g, t * 6, none⟩ = some (.int .i64 M[t].k) ∧ w.cell? ⟨g, t * 6 + 1, none⟩ = some (.int .i64 M[t].f) ∧ w.cell? ⟨g, t * 6 + 2, none⟩ = some (.int .i64 M[t].t) ∧ w.cell? ⟨g, t * 6 + 3, none⟩ = some (.int .u64 M[t].id) ∧ w.cell? ⟨g, t * 6 + 4, none⟩ = some (.int .u64 M[t].n) ∧ w.cell? ⟨g, t * 6 + 5, none⟩ = some (.slice M[t].A M[t].L.length M[t].c) := by
  obtain ⟨A', c', e', hr', _⟩ := OwnL.row Mg.cells_len h
  injection e' with e1
  subst e1
  obtain ⟨gr, off, eA, hgr, hcr⟩ := hr'.at_ ht
  obtain ⟨rfl, rfl⟩ : g = gr ∧ 0 = off := by injection eA with h; injection h; exact ⟨by assumption, by assumption⟩
  have hx : ∀ j u, (Mg.cells M[t])[j]? = some u → w.cell? ⟨g, t * 6 + j, none⟩ = some u := fun j u hu => by
    have := hcr t ht j u hu
    simpa using this
  exact ⟨by simpa using hx 0 _ rfl, hx 1 _ rfl, hx 2 _ rfl, hx 3 _ rfl, hx 4 _ rfl, hx 5 _ rfl⟩
theorem own_drew {α : Type} {cells : α → List Value} {sz : Nat} {e : TypeId} {base : Nat} {w : World} {v : Value} {L : List α} (h : OwnL cells sz e base w v L) : OwnL cells sz e base w.drew v L := h
theorem fl_set : ∀ (M : List Mg) (k : Nat) (x : Mg), k < M.length → fl (M.set k x) = (fl M).take (k * 6) ++ Mg.cells x ++ (fl M).drop (k * 6 + 6)
  | [], k, x, h => by simp at h
  | a :: M, 0, x, _ => by
    show Mg.cells x ++ fl M = (Mg.cells a ++ fl M).take (0 * 6) ++ Mg.cells x ++ (Mg.cells a ++ fl M).drop (0 * 6 + 6)
    simp [Mg.cells]
  | a :: M, k + 1, x, h => by
    have ih := fl_set M k x (by simpa using h)
    show Mg.cells a ++ fl (M.set k x) = (Mg.cells a ++ fl M).take ((k + 1) * 6) ++ Mg.cells x ++ (Mg.cells a ++ fl M).drop ((k + 1) * 6 + 6)
    rw [ih, show (k + 1) * 6 = (Mg.cells a).length + k * 6 by rw [Mg.cells_len]; omega, List.take_length_add_append, show (Mg.cells a).length + k * 6 + 6 = (Mg.cells a).length + (k * 6 + 6) by omega, List.drop_length_add_append]
    simp only [List.append_assoc]
/-- Six stores are one row of cells. -/
theorem six_sets (w : World) (g o : Nat) (v0 v1 v2 v3 v4 v5 : Value) : (((((w.setCell ⟨g, o, none⟩ v0).setCell ⟨g, o + 1, none⟩ v1).setCell ⟨g, o + 2, none⟩ v2).setCell ⟨g, o + 3, none⟩ v3).setCell ⟨g, o + 4, none⟩ v4).setCell ⟨g, o + 5, none⟩ v5 = w.setCells g o [v0, v1, v2, v3, v4, v5] := rfl
theorem own_put6 {base : Nat} {w : World} {g n c : Nat} {M : List Mg} (h : OwnL Mg.cells 6 30 base w (.slice (some ⟨g, 0, none⟩) n c) M) {k : Nat} (hk : k < M.length) (x : Mg) : OwnL Mg.cells 6 30 base (w.setCells g (k * 6) (Mg.cells x)) (.slice (some ⟨g, 0, none⟩) n c) (M.set k x) := by
  obtain ⟨hl, h2⟩ := h
  refine ⟨fl_length _, ?_⟩
  rcases h2 with ⟨e0, _⟩ | ⟨g', cap, cur, ev, hb, hh, hnc, hcm, hcs, htk⟩
  · cases e0
  · injection ev with e1 e2 e3
    injection e1 with e1
    injection e1 with e1
    subst e1
    obtain ⟨q, rfl⟩ : ∃ q : List Value, cur = q.toArray := ⟨cur.toList, by simp⟩
    have hql : q.length = cap * 6 := by simpa using hcs
    rw [List.toList_toArray] at htk
    have hp := heap_cells (Mg.cells x) (k * 6) q w hh (by rw [Mg.cells_len]; omega)
    rw [Mg.cells_len] at hp
    refine .inr ⟨g, cap, _, by rw [List.length_set, e2, e3], hb, hp, by rw [List.length_set]; exact hnc, hcm, ?_, ?_⟩
    · simp only [List.size_toArray, List.length_append, List.length_take, List.length_drop, Mg.cells_len]; omega
    · rw [List.toList_toArray, List.length_set]
      have hfm : q.take (M.length * 6) = fl M := htk
      show _ = fl (M.set k x)
      rw [fl_set M k x hk, ← hfm]
      rw [List.take_take, Nat.min_eq_left (by omega), List.drop_take, List.take_append, List.length_append, List.length_take, Mg.cells_len, Nat.min_eq_left (by omega)]
      rw [List.take_of_length_le (l := q.take (k * 6) ++ Mg.cells x) (by simp only [List.length_append, List.length_take, Mg.cells_len]; omega)]
end Go.Proofs.Ytikecafblampeaa
