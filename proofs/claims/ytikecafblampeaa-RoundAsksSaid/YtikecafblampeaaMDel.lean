/- slices.Delete of one message out of a row of one's own: a contract. Conditions: typed. -/
import Derived.Test.YtikecafblampeaaMsg3
import Derived.Test.YtikecafblampeaaSsE
import Derived.Test.YtikecafblampeaaDel
import Derived.Test.YtikecafblampeaaJ
import Derived.Deep.RegionLaw
namespace Go.Proofs.Ytikecafblampeaa
set_option linter.unusedVariables false
set_option linter.unusedSimpArgs false
open Go.ChangeShapes Go.WideShapes Go.ChangeAt Go.RowKit

def fl (M : List Mg) : List Value := M.flatMap Mg.cells
theorem fl_length (M : List Mg) : (fl M).length = M.length * 6 := flat_len Mg.cells_len M
theorem fl_one (M : List Mg) : ∀ u ∈ fl M, u.oneCell' = true := by
  intro u hu
  obtain ⟨a, _, ha⟩ := List.mem_flatMap.1 hu
  exact Mg.cells_one a u ha
theorem fl_app (L M : List Mg) : fl (L ++ M) = fl L ++ fl M := List.flatMap_append
theorem fl_split (M : List Mg) (i : Nat) : fl M = fl (M.take i) ++ fl (M.drop i) := by rw [← fl_app, List.take_append_drop]
theorem heap_cells {g : Nat} {t : TypeId} : ∀ (news : List Value) (off : Nat) (cur : List Value) (w : World), w.heap[g]? = some (.cells cur.toArray t (0, 0)) → off + news.length ≤ cur.length →
    (w.setCells g off news).heap[g]? = some (.cells (cur.take off ++ news ++ cur.drop (off + news.length)).toArray t (0, 0))
  | [], off, cur, w, h, _ => by simpa [World.setCells] using h
  | v :: r, off, cur, w, h, hl => by
    simp only [List.length_cons] at hl
    have h1 := heap_cells r (off + 1) (cur.set off v) (w.setCell ⟨g, off, none⟩ v) (heap_setE h) (by rw [List.length_set]; omega)
    rw [World.setCells, h1]
    congr 3
    have e1 : (cur.set off v).take (off + 1) = cur.take off ++ [v] := by
      rw [List.take_succ_eq_append_getElem (by rw [List.length_set]; omega), List.take_set_of_le (Nat.le_refl _), List.getElem_set_self]
    rw [e1, List.drop_set_of_lt (by omega)]
    simp only [List.length_cons, List.append_assoc, List.singleton_append]
    congr 3
    omega
theorem setCells_sizeM (b : Nat) : ∀ (vs : List Value) (o : Nat) (w : World), (w.setCells b o vs).heap.size = w.heap.size
  | [], _, _ => rfl
  | v :: r, o, w => by rw [World.setCells, setCells_sizeM b r]; simp
theorem setCells_grownM (w : World) (b : Nat) (vs : List Value) (o : Nat) : w.grownBy (w.setCells b o vs) (some b) := by
  induction vs generalizing o w with
  | nil => exact World.grownBy.refl w _
  | cons v r ih =>
    have h2 := ih (w.setCell ⟨b, o, none⟩ v) (o + 1)
    rw [World.setCells]
    refine ⟨h2.os, h2.tape, h2.output, Nat.le_trans (by simp) h2.size, fun k hk hne => ?_⟩
    exact (h2.block k (by simpa using hk) hne).trans (Below.heap_setCell w ⟨b, o, none⟩ v k (fun e => hne (by rw [e])))
theorem _root_.Go.World.grownBy.trans_ {a b c : World} {row : Option Nat} (h : a.grownBy b row) (k : b.grownBy c row) : a.grownBy c row :=
  ⟨k.os.trans h.os, k.tape.trans h.tape, k.output.trans h.output, Nat.le_trans h.size k.size, fun i hi hne => (k.block i (Nat.lt_of_lt_of_le hi h.size) hne).trans (h.block i hi hne)⟩
abbrev zM : Value := .agg #[.int .i64 0, .int .i64 0, .int .i64 0, .int .u64 0, .int .u64 0, .slice none 0 0]
theorem zeroM_one : ∀ v ∈ (Builtin.zeroCells zM.cells 1).toList, v.oneCell' = true := by
  intro v hv
  simp only [Builtin.zeroCells, Array.toList_flatten, Array.toList_replicate, Array.toList_map, List.mem_flatten, List.mem_map] at hv
  obtain ⟨a, _, rfl⟩ := hv
  have h : a % 6 < 6 := Nat.mod_lt _ (by omega)
  show ((#[.int .i64 0, .int .i64 0, .int .i64 0, .int .u64 0, .int .u64 0, .slice none 0 0] : Array Value)[a % 6]!).oneCell' = true
  generalize a % 6 = k at h ⊢
  match k, h with
  | 0, _ => rfl
  | 1, _ => rfl
  | 2, _ => rfl
  | 3, _ => rfl
  | 4, _ => rfl
  | 5, _ => rfl
theorem zeroM_len : (Builtin.zeroCells zM.cells 1).toList.length = 6 := by
  rw [Array.length_toList, size_zeroCells]; rfl
end Go.Proofs.Ytikecafblampeaa
