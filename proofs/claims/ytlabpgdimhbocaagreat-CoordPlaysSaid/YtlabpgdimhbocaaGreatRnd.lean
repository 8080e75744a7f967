/- round.Round: how it lies; New, Items, to: contracts. Conditions: the round as it lies. -/
import Derived.Test.YtlabpgdimhbocaaGreatMsg3
import Derived.Test.YtlabpgdimhbocaaGreatMgB
import Derived.Test.YtlabpgdimhbocaaGreatPSt
import Derived.Test.YtlabpgdimhbocaaGreatApp
import Derived.Test.YtlabpgdimhbocaaGreatOg
import Derived.Test.YtlabpgdimhbocaaGreatJ
import Derived.Test.YtlabpgdimhbocaaGreatSets
namespace Go.Proofs.YtlabpgdimhbocaaGreat
set_option linter.unusedVariables false
set_option linter.unusedSimpArgs false
open Go.ChangeShapes Go.WideShapes Go.ChangeAt Go.RowKit

def nodesB (n at_ id : Int) : Bool := decide (1 ≤ n ∧ n ≤ 7 ∧ 0 ≤ at_ ∧ at_ < n ∧ 1 ≤ id ∧ id ≤ 1099511627776)
set_option maxHeartbeats 1600000 in
theorem nodes_any (n at_ id : Int) (w : World) : Calls Tryz.prog 19 #[.int .i64 n, .int .i64 at_, .int .u64 id] w fun e w' => e = .returned (.bool (nodesB n at_ id)) ∧ Below w.heap.size w w' := by
  by_cases h0 : 1 ≤ n
  case neg =>
    first | rw [show nodesB n at_ id = true from decide_eq_true (by omega)] | rw [show nodesB n at_ id = false from decide_eq_false (by omega)]
    go_enter Tryz.func19, Tryz.ntmps19
    go_wp2
    go_ret
    exact ⟨by simp; try omega, Below.refl _ _⟩
  by_cases h1 : n ≤ 7
  case neg =>
    first | rw [show nodesB n at_ id = true from decide_eq_true (by omega)] | rw [show nodesB n at_ id = false from decide_eq_false (by omega)]
    go_enter Tryz.func19, Tryz.ntmps19
    go_wp2
    go_ret
    exact ⟨by simp; try omega, Below.refl _ _⟩
  by_cases h2 : 0 ≤ at_
  case neg =>
    first | rw [show nodesB n at_ id = true from decide_eq_true (by omega)] | rw [show nodesB n at_ id = false from decide_eq_false (by omega)]
    go_enter Tryz.func19, Tryz.ntmps19
    go_wp2
    go_ret
    exact ⟨by simp; try omega, Below.refl _ _⟩
  by_cases h3 : at_ < n
  case neg =>
    first | rw [show nodesB n at_ id = true from decide_eq_true (by omega)] | rw [show nodesB n at_ id = false from decide_eq_false (by omega)]
    go_enter Tryz.func19, Tryz.ntmps19
    go_wp2
    go_ret
    exact ⟨by simp; try omega, Below.refl _ _⟩
  by_cases h4 : 1 ≤ id
  case neg =>
    first | rw [show nodesB n at_ id = true from decide_eq_true (by omega)] | rw [show nodesB n at_ id = false from decide_eq_false (by omega)]
    go_enter Tryz.func19, Tryz.ntmps19
    go_wp2
    go_ret
    exact ⟨by simp; try omega, Below.refl _ _⟩
  by_cases h5 : id ≤ 1099511627776
  case neg =>
    first | rw [show nodesB n at_ id = true from decide_eq_true (by omega)] | rw [show nodesB n at_ id = false from decide_eq_false (by omega)]
    go_enter Tryz.func19, Tryz.ntmps19
    go_wp2
    go_ret
    exact ⟨by simp; try omega, Below.refl _ _⟩
  first | rw [show nodesB n at_ id = true from decide_eq_true (by omega)] | rw [show nodesB n at_ id = false from decide_eq_false (by omega)]
  go_enter Tryz.func19, Tryz.ntmps19
  go_wp2
  go_ret
  exact ⟨by simp; try omega, Below.refl _ _⟩

theorem j_startD {P : Program} {ops : Array Oper} {Q : Exit → Act → World → Prop} (F : List Nat) {id : Nat} {a : Act} {w u : World} (hu : w.drew = u) (hm : P.follows .mixedOrders = true) (h : wpAnyJ P .any ops (NoPanic Q) F (Bel u) ops.size (Array.replicate ops.size false) a u) : (Code.region id ops true).wp P Q a w := by
  subst hu
  exact wp_region_noPanic (wp_region_any hm (wpAny_of_J _ _ _ _ h))
theorem Sets.set6r {S : Nat → Prop} {w w' : World} (h : Sets S w w') {g : Nat} (hg : g < w.heap.size → S g) (v0 v1 v2 v3 v4 v5 : Value) : Sets S w ((((((w'.setCell ⟨g, 0, none⟩ v0).setCell ⟨g, 1, none⟩ v1).setCell ⟨g, 2, none⟩ v2).setCell ⟨g, 3, none⟩ v3).setCell ⟨g, 4, none⟩ v4).setCell ⟨g, 5, none⟩ v5) :=
  (((((h.set hg 0 v0).set hg 1 v1).set hg 2 v2).set hg 3 v3).set hg 4 v4).set hg 5 v5
/-- A round, as numbers. -/
structure Rs where
  n : Int
  at_ : Int
  id : Int
  f : Int
  ph : Int
  C : Nat → Bool
  cnt : Int
  L : List It
  tk : Int
  d : Int
  aid : Int
  ae : Int
  av : Int
/-- A round's block. -/
def rsL (R : Rs) (m : Int) (v : Value) : List Value := [.int .i64 R.n, .int .i64 R.at_, .int .u64 R.id, .int .u64 R.f, .int .i64 R.ph] ++ (List.range 7).map (fun k => .bool (R.C k)) ++ [.int .i64 R.cnt, v, .int .i64 R.tk, .int .u32 R.d, .int .i32 m, .int .u32 0, .int .u64 R.aid, .int .i64 0, .int .i64 0, .int .u64 0, .int .i64 0, .int .i64 R.ae, .int .u64 R.av, .slice none 0 0]
theorem cell_of_list {w : World} {b o : Nat} {l : List Value} {t : TypeId} {fr : Nat × Nat} (h : w.heap[b]? = some (.cells l.toArray t fr)) : w.cell? ⟨b, o, none⟩ = l[o]? := (cell_of_row w b o _ _ _ h).trans (by simp)
theorem set_of_list {w : World} {b o : Nat} {l : List Value} {t : TypeId} {fr : Nat × Nat} (h : w.heap[b]? = some (.cells l.toArray t fr)) (v : Value) : (w.setCell ⟨b, o, none⟩ v).heap[b]? = some (.cells (l.set o v).toArray t fr) := by
  simp [World.setCell, Array.getElem?_modify, h]
theorem Og.sets_ {S : Nat → Prop} {base : Nat} {w w' : World} {v : Value} {L : List It} (h : Og base w v L) (k : Sets S w w') (hS : ∀ g, base ≤ g → ¬ S g) : Og base w' v L := by
  rcases h with h | ⟨g, cap, R, e, hb, hh, h1, h2, h3⟩
  · exact .inl h
  · exact .inr ⟨g, cap, R, e, hb, (k.block g (Array.getElem?_eq_some_iff.1 hh).1 (hS g hb)).trans hh, h1, h2, h3⟩
/-- A round that nobody answered. -/
def rs0 (n a id f : Int) : Rs := ⟨n, a, id, f, 1, fun _ => false, 0, [], 0, 0, 0, 0, 0⟩
/-- A message of a round. -/
def toM (R : Rs) (node kind : Int) : Mg := ⟨kind, R.at_, node, R.id, R.f, none, 0, if kind = 8 then R.L else []⟩
end Go.Proofs.YtlabpgdimhbocaaGreat
