/- Messages: how they lie, msg.Ok, msg.Copy, the document's MsgOk, SameMsg: contracts. Conditions: the items readable. -/
import Derived.Test.YthpbohheddkfiaaCon
import Derived.Test.YthpbohheddkfiaaItem
import Derived.Test.YthpbohheddkfiaaApp
import Derived.Test.YthpbohheddkfiaaREq
import Derived.Test.YthpbohheddkfiaaSets
namespace Go.Proofs.Ythpbohheddkfiaa
set_option linter.unusedVariables false
set_option linter.unusedSimpArgs false
open Go.ChangeShapes Go.WideShapes Go.ChangeAt Go.RowKit

/-- A message, with where its items lie. -/
structure Mg where
  k : Int
  f : Int
  t : Int
  id : Int
  n : Int
  A : Option Addr
  c : Nat
  L : List It
abbrev Mg.val (m : Mg) : Value := .agg #[.int .i64 m.k, .int .i64 m.f, .int .i64 m.t, .int .u64 m.id, .int .u64 m.n, .slice m.A m.L.length m.c]
def Mg.cells (m : Mg) : List Value := [.int .i64 m.k, .int .i64 m.f, .int .i64 m.t, .int .u64 m.id, .int .u64 m.n, .slice m.A m.L.length m.c]
theorem Mg.cells_len (m : Mg) : (Mg.cells m).length = 6 := rfl
theorem Mg.cells_one (m : Mg) : ∀ u ∈ Mg.cells m, u.oneCell' = true := by
  intro u hu
  simp only [Mg.cells, List.mem_cons, List.not_mem_nil, or_false] at hu
  rcases hu with rfl | rfl | rfl | rfl | rfl | rfl <;> rfl
/-- Its items are read. -/
def Mg.rd (w : World) (m : Mg) : Prop := ItemsAt w m.A m.L ∧ m.L.length ≤ m.c ∧ m.c ≤ maxLen
theorem Mg.rd.below {w w' : World} {m : Mg} (h : m.rd w) (hb : Below w.heap.size w w') : m.rd w' := ⟨h.1.below hb, h.2⟩
/-- Two messages say the same. -/
def Mg.same (a b : Mg) : Prop := a.k = b.k ∧ a.f = b.f ∧ a.t = b.t ∧ a.id = b.id ∧ a.n = b.n ∧ a.L = b.L
theorem Mg.same.refl (a : Mg) : Mg.same a a := ⟨rfl, rfl, rfl, rfl, rfl, rfl⟩
theorem Mg.same.symm {a b : Mg} (h : Mg.same a b) : Mg.same b a := ⟨h.1.symm, h.2.1.symm, h.2.2.1.symm, h.2.2.2.1.symm, h.2.2.2.2.1.symm, h.2.2.2.2.2.symm⟩
theorem Mg.same.trans {a b c : Mg} (h : Mg.same a b) (k : Mg.same b c) : Mg.same a c := ⟨h.1.trans k.1, h.2.1.trans k.2.1, h.2.2.1.trans k.2.2.1, h.2.2.2.1.trans k.2.2.2.1, h.2.2.2.2.1.trans k.2.2.2.2.1, h.2.2.2.2.2.trans k.2.2.2.2.2⟩
def sameMB (a b : Mg) : Bool := decide (a.k = b.k) && decide (a.f = b.f) && decide (a.t = b.t) && decide (a.id = b.id) && decide (a.n = b.n) && eqL a.L b.L
theorem sameMB_iff {a b : Mg} : sameMB a b = true ↔ Mg.same a b := by
  unfold sameMB Mg.same
  simp only [Bool.and_eq_true, decide_eq_true_eq, eqL_iff, and_assoc]
def nodeB (n : Int) : Bool := decide (0 ≤ n) && decide (n < 7)
def withB (k : Int) : Bool := decide (k = 1) || decide (k = 5) || decide (k = 7) || decide (k = 8)
def mokB (m : Mg) : Bool := decide (1 ≤ m.k) && decide (m.k ≤ 10) && nodeB m.f && nodeB m.t && decide (m.id ≤ 1099511627776) && decide (m.n ≤ 281474976710656) && decide (m.L.length ≤ 1500) && m.L.all goodB && (decide (m.L.length = 0) || withB m.k)
theorem mokB_same {a b : Mg} (h : Mg.same a b) : mokB a = mokB b := by
  obtain ⟨h1, h2, h3, h4, h5, h6⟩ := h
  unfold mokB
  rw [h1, h2, h3, h4, h5, h6]
theorem tells_all (L : List It) (w : World) : Tells 52 #[] (fun x => !goodB x) L w := by
  intro x hx w1 hb
  show Calls Try.prog 52 #[x.val] w1 fun e w2 => e = .returned (.bool (!goodB x)) ∧ Below w1.heap.size w1 w2
  have HG := hide (fun W => pgood_any x W)
  generalize goodB x = g at *
  have HB := hide (below_alloc (Below.refl w1.heap.size w1) (.cells (It.cells x).toArray 33))
  clear hb
  go_enter Try.func52, Try.ntmps52
  go_wp2_with fail
  refine (Calls.mono (HG.out _) ?_); rintro e w2 ⟨rfl, hb2⟩
  have HB2 := hide (below_step HB.out hb2)
  clear hb2 HB
  cases g
  · go_wp2_with fail
    go_ret
    exact ⟨rfl, HB2.out⟩
  · go_wp2_with fail
    go_ret
    exact ⟨rfl, HB2.out⟩
theorem allc_in : Enters Try.prog 52 := fun _ _ => by kernel_rfl
theorem any_all (L : List It) : (!anyI (fun x => !goodB x) L) = L.all goodB := by
  unfold anyI
  rw [List.any_eq_not_all_not]
  simp
theorem iall_any (A : Option Addr) (c : Nat) (L : List It) (w : World) (hl : L.length ≤ 9223372036854775807) (hL : ItemsAt w A L) :
    Calls Try.prog 40 #[.slice A L.length c] w fun e w' => e = .returned (.bool (L.all goodB)) ∧ Below w.heap.size w w' := by
  have HC := hide (contains_any 52 #[] allc_in (fun x => !goodB x) A c L w hl hL (tells_all L w))
  have HV := hide (any_all L)
  generalize anyI (fun x => !goodB x) L = g at *
  clear hL
  go_enter Try.func40, Try.ntmps40
  go_wp2_with fail
  refine (Calls.mono HC.out ?_); rintro e w1 ⟨rfl, hb⟩
  have HB := hide hb
  clear hb
  go_wp2_with fail
  go_ret
  exact ⟨by rw [← HV.out]; rfl, HB.out⟩
end Go.Proofs.Ythpbohheddkfiaa
