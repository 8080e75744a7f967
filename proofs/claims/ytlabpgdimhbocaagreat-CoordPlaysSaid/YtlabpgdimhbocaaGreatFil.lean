/- Filters of items, as plain predicates; what a filter's loop keeps; when two items are one (the model's own comparison of two structs). No program's function occurs here. -/
import Derived.Test.YtlabpgdimhbocaaGreatSl
import Derived.Laws.StructEq
namespace Go.Proofs.YtlabpgdimhbocaaGreat
set_option linter.unusedVariables false
set_option linter.unusedSimpArgs false
open Go.ChangeShapes Go.WideShapes Go.ChangeAt Go.RowKit

def serP (s : Int) (x : It) : Bool := decide (x.s = s)
def ranP (s lo hi : Int) (x : It) : Bool := decide (x.s = s ∧ x.k = 2 ∧ lo ≤ x.t ∧ x.t ≤ hi)
def uptP (v : Int) (x : It) : Bool := decide (x.v ≤ v)
def purP (v : Int) (x : It) : Bool := decide (x.k ≠ 1 ∨ v < x.v)
section
variable {p : It → Bool} {L : List It} {k : Nat}
theorem filt_in (hk : k < L.length) : p L[k] = true → (L.take (k + 1)).filter p = (L.take k).filter p ++ [L[k]] := fun h => by rw [List.take_succ_eq_append_getElem hk, List.filter_append]; simp [h]
theorem filt_out (hk : k < L.length) : p L[k] = false → (L.take (k + 1)).filter p = (L.take k).filter p := fun h => by rw [List.take_succ_eq_append_getElem hk, List.filter_append]; simp [h]
theorem filt_len (p : It → Bool) (L : List It) (k : Nat) : ((L.take k).filter p).length ≤ k := Nat.le_trans (List.length_filter_le _ _) (List.length_take_le _ _)
theorem filt_all (p : It → Bool) (L : List It) : (L.take L.length).filter p = L.filter p := by rw [List.take_length]
end

def eqI (a b : It) : Bool := a.s == b.s && (a.k == b.k && (a.t == b.t && (a.v == b.v && a.x == b.x)))
theorem eqI_iff {a b : It} : eqI a b = true ↔ a = b := by
  cases a; cases b
  simp [eqI]
theorem eqI_self (a : It) : eqI a a = true := eqI_iff.2 rfl
theorem Tryz.structItem : Tryz.prog.underlying 78 = some (.struct (Tryz.prog.fieldsOf 78)) := by kernel_rfl
theorem Tryz.plainItem : Tryz.prog.stoodInHeld 78 = false := by kernel_rfl
theorem run_eql_item (a b : It) (w : World) : (binOp .eql 78 a.val b.val).run Tryz.prog w = .ok (.bool (eqI a b)) w := by
  rw [run_eql_struct, show (10000 : Nat) = 9999 + 1 from rfl, run_equalIn_agg w 9999 78 _ _ Tryz.structItem Tryz.plainItem]
  have u1 := Tryz.underlying3
  have u2 := Tryz.underlying22
  have u3 := Tryz.underlying2
  have a1 := Tryz.isAgg3
  have a2 := Tryz.isAgg22
  have a3 := Tryz.isAgg2
  have z1 := Tryz.sizeOf3
  have z2 := Tryz.sizeOf22
  have z3 := Tryz.sizeOf2
  simp only [Program.fieldsOf, Tryz.underlying78]
  go_simp
  unfold eqI
  by_cases h0 : a.s = b.s <;> by_cases h1 : a.k = b.k <;> by_cases h2 : a.t = b.t <;> by_cases h3 : a.v = b.v <;> by_cases h4 : a.x = b.x <;> simp [h0, h1, h2, h3, h4]
theorem run_neq_item (a b : It) (w : World) : (binOp .neq 78 a.val b.val).run Tryz.prog w = .ok (.bool (!eqI a b)) w := by
  have h := run_eql_item a b w
  rw [run_eql_struct] at h
  rw [run_neq_struct]
  generalize (Op.equalIn 10000 78 (.agg #[.int .i64 a.s, .int .i64 a.k, .int .u64 a.t, .int .u64 a.v, .int .i64 a.x]) (.agg #[.int .i64 b.s, .int .i64 b.k, .int .u64 b.t, .int .u64 b.v, .int .i64 b.x])).run Tryz.prog w = r at *
  cases r with
  | halt h w' => simp [Result.andThen] at h
  | ok c w' =>
    simp only [Result.andThen_ok, Result.ok.injEq, Value.bool.injEq] at h
    rw [h.1, h.2]; rfl
def eqL : List It → List It → Bool
  | [], [] => true
  | a :: l, b :: m => eqI a b && eqL l m
  | [], _ :: _ => false
  | _ :: _, [] => false
theorem eqL_iff : ∀ {a b : List It}, eqL a b = true ↔ a = b
  | [], [] => by simp [eqL]
  | a :: l, b :: m => by simp [eqL, eqI_iff, eqL_iff]
  | [], _ :: _ => by simp [eqL]
  | _ :: _, [] => by simp [eqL]
theorem eqL_self (a : List It) : eqL a a = true := eqL_iff.2 rfl
theorem eqL_false {a b : List It} (h : a ≠ b) : eqL a b = false := by
  cases e : eqL a b
  · rfl
  · exact absurd (eqL_iff.1 e) h
theorem eqL_len {a b : List It} (h : a.length ≠ b.length) : eqL a b = false := eqL_false fun e => h (by rw [e])
theorem take_eq {a b : List It} (h : a.length = b.length) {k : Nat} (hk : a.length ≤ k) (ht : a.take k = b.take k) : eqL a b = true := by
  rw [List.take_of_length_le hk, List.take_of_length_le (by omega)] at ht
  exact eqL_iff.2 ht
theorem take_ne {a b : List It} {k : Nat} (ha : k < a.length) (hb : k < b.length) (h : eqI a[k] b[k] = false) : eqL a b = false := by
  refine eqL_false fun e => ?_
  subst e
  rw [eqI_self] at h; cases h
theorem take_on {a b : List It} {k : Nat} (ha : k < a.length) (hb : k < b.length) (ht : a.take k = b.take k) (h : eqI a[k] b[k] = true) : a.take (k + 1) = b.take (k + 1) := by
  rw [List.take_succ_eq_append_getElem ha, List.take_succ_eq_append_getElem hb, ht, eqI_iff.1 h]
end Go.Proofs.YtlabpgdimhbocaaGreat
