/- coord.Call: how it lies; New, Need: contracts. Conditions: the call as it lies. -/
import Derived.Test.YtlabpgdimhbocaaGreatRndS
import Derived.StillTailTactics
import Derived.BigRegion
import Derived.Deep.DeepCutAuto
import Derived.Deep.CutBlock
namespace Go.Proofs.YtlabpgdimhbocaaGreat
set_option linter.unusedVariables false
set_option linter.unusedSimpArgs false
open Go.ChangeShapes Go.WideShapes Go.ChangeAt Go.RowKit

def clientB (k s t x : Int) : Bool := decide (0 ≤ s ∧ s ≤ 255 ∧ t ≤ 1099511627776 ∧ (k = 1 ∨ ((k = 2 ∨ k = 3) ∧ t = 0 ∧ x = 0)))
abbrev client4 (k s t x : Int) : Value := .agg #[.int .i64 k, .int .i64 s, .int .u64 t, .int .i64 x]

set_option maxHeartbeats 3200000 in
theorem cok_any (k s t x : Int) (w : World) : Calls Tryz.prog 20 #[client4 k s t x] w fun e w' => e = .returned (.bool (clientB k s t x)) ∧ Below w.heap.size w w' := by
  by_cases h0 : 0 ≤ s
  case neg =>
    first | rw [show clientB _ _ _ _ = true from decide_eq_true (by omega)] | rw [show clientB _ _ _ _ = false from decide_eq_false (by omega)]
    go_enter Tryz.func20, Tryz.ntmps20
    go_wp2
    go_returns
    exact ⟨by simp; try omega, by go_grown⟩
  by_cases h1 : s ≤ 255
  case neg =>
    first | rw [show clientB _ _ _ _ = true from decide_eq_true (by omega)] | rw [show clientB _ _ _ _ = false from decide_eq_false (by omega)]
    go_enter Tryz.func20, Tryz.ntmps20
    go_wp2
    go_returns
    exact ⟨by simp; try omega, by go_grown⟩
  by_cases h2 : t ≤ 1099511627776
  case neg =>
    first | rw [show clientB _ _ _ _ = true from decide_eq_true (by omega)] | rw [show clientB _ _ _ _ = false from decide_eq_false (by omega)]
    go_enter Tryz.func20, Tryz.ntmps20
    go_wp2
    go_returns
    exact ⟨by simp; try omega, by go_grown⟩
  by_cases k2 : k = 2
  case pos =>
    subst k2
    by_cases g0 : t = 0
    case neg =>
      first | rw [show clientB _ _ _ _ = true from decide_eq_true (by omega)] | rw [show clientB _ _ _ _ = false from decide_eq_false (by omega)]
      go_enter Tryz.func20, Tryz.ntmps20
      go_wp2
      go_returns
      exact ⟨by simp; try omega, by go_grown⟩
    by_cases g1 : x = 0
    case neg =>
      first | rw [show clientB _ _ _ _ = true from decide_eq_true (by omega)] | rw [show clientB _ _ _ _ = false from decide_eq_false (by omega)]
      go_enter Tryz.func20, Tryz.ntmps20
      go_wp2
      go_returns
      exact ⟨by simp; try omega, by go_grown⟩
    subst g0
    subst g1
    first | rw [show clientB _ _ _ _ = true from decide_eq_true (by omega)] | rw [show clientB _ _ _ _ = false from decide_eq_false (by omega)]
    go_enter Tryz.func20, Tryz.ntmps20
    go_wp2
    go_returns
    exact ⟨by simp; try omega, by go_grown⟩
  by_cases k3 : k = 3
  case pos =>
    subst k3
    by_cases g0 : t = 0
    case neg =>
      first | rw [show clientB _ _ _ _ = true from decide_eq_true (by omega)] | rw [show clientB _ _ _ _ = false from decide_eq_false (by omega)]
      go_enter Tryz.func20, Tryz.ntmps20
      go_wp2
      go_returns
      exact ⟨by simp; try omega, by go_grown⟩
    by_cases g1 : x = 0
    case neg =>
      first | rw [show clientB _ _ _ _ = true from decide_eq_true (by omega)] | rw [show clientB _ _ _ _ = false from decide_eq_false (by omega)]
      go_enter Tryz.func20, Tryz.ntmps20
      go_wp2
      go_returns
      exact ⟨by simp; try omega, by go_grown⟩
    subst g0
    subst g1
    first | rw [show clientB _ _ _ _ = true from decide_eq_true (by omega)] | rw [show clientB _ _ _ _ = false from decide_eq_false (by omega)]
    go_enter Tryz.func20, Tryz.ntmps20
    go_wp2
    go_returns
    exact ⟨by simp; try omega, by go_grown⟩
  by_cases k1 : k = 1
  case pos =>
    subst k1
    first | rw [show clientB _ _ _ _ = true from decide_eq_true (by omega)] | rw [show clientB _ _ _ _ = false from decide_eq_false (by omega)]
    go_enter Tryz.func20, Tryz.ntmps20
    go_wp2
    go_returns
    exact ⟨by simp; try omega, by go_grown⟩
  first | rw [show clientB _ _ _ _ = true from decide_eq_true (by omega)] | rw [show clientB _ _ _ _ = false from decide_eq_false (by omega)]
  go_enter Tryz.func20, Tryz.ntmps20
  go_wp2
  go_returns
  exact ⟨by simp; try omega, by go_grown⟩
def newB (n at_ id k s t x v : Int) : Bool := nodesB n at_ id && clientB k s t x && decide (v ≤ 281474976710656) && (v == 0) == (k == 3)
/-- A call that nobody answered: its cells. -/
def callNew (n at_ id k s t x v : Int) : Array Value :=
  #[.int .i64 n, .int .i64 at_, .int .u64 id, .int .i64 k, .int .i64 s, .int .u64 t, .int .i64 x, .int .u64 v, .bool false, .bool false, .bool false, .bool false, .bool false, .bool false, .bool false, .int .i64 0, .slice none 0 0, .int .i64 0,
    .int .u32 0, .int .i32 0, .int .u32 0, .int .u64 0, .int .i64 0, .int .i64 0, .int .u64 0, .int .i64 0, .int .i64 0, .int .u64 0, .slice none 0 0, .bool false]

set_option maxHeartbeats 1600000 in
theorem cnew_no (n at_ id k s t x v : Int) (w : World) (h : newB n at_ id k s t x v = false) :
    Calls Tryz.prog 4 #[.int .i64 n, .int .i64 at_, .int .u64 id, client4 k s t x, .int .u64 v] w fun e w' => e = .returned (.tuple #[.pointer none, .int .i64 1]) ∧ Below w.heap.size w w' := by
  have hn := fun W => nodes_any n at_ id W
  have ho := fun W => cok_any k s t x W
  unfold newB at h
  cases h1 : nodesB n at_ id
  case false =>
    rw [h1] at hn
    have HN := hide hn
    clear hn ho h h1
    go_enter Tryz.func4, Tryz.ntmps4
    go_wp2_with ((with_reducible refine (HN.out _).mono ?_); rintro e w1 ⟨rfl, hg1⟩)
    go_returns
    exact ⟨rfl, by repeat' (first | exact Below.refl _ _ | refine below_alloc ?_ _ | refine below_step ?_ (by assumption))⟩
  rw [h1] at hn h
  have HN := hide hn
  clear hn h1
  cases h2 : clientB k s t x
  case false =>
    rw [h2] at ho
    have HO := hide ho
    clear ho h h2
    go_enter Tryz.func4, Tryz.ntmps4
    go_wp2_with (first
      | ((with_reducible refine (HN.out _).mono ?_); rintro e w1 ⟨rfl, hg1⟩; obtain ⟨hc1, hf1⟩ := bcell hg1)
      | ((with_reducible refine (HO.out _).mono ?_); rintro e w2 ⟨rfl, hg2⟩))
    go_returns
    exact ⟨rfl, by repeat' (first | exact Below.refl _ _ | refine below_alloc ?_ _ | refine below_step ?_ (by assumption))⟩
  rw [h2] at ho h
  have HO := hide ho
  clear ho h2
  by_cases h3 : v ≤ 281474976710656
  case neg =>
    clear h
    have d : decide (281474976710656 < v) = true := decide_eq_true (by omega)
    go_enter Tryz.func4, Tryz.ntmps4
    go_wp2_with (first
      | ((with_reducible refine (HN.out _).mono ?_); rintro e w1 ⟨rfl, hg1⟩; obtain ⟨hc1, hf1⟩ := bcell hg1)
      | ((with_reducible refine (HO.out _).mono ?_); rintro e w2 ⟨rfl, hg2⟩))
    go_returns
    exact ⟨rfl, by repeat' (first | exact Below.refl _ _ | refine below_alloc ?_ _ | refine below_step ?_ (by assumption))⟩
  have d : decide (281474976710656 < v) = false := decide_eq_false (by omega)
  cases h4 : (v == 0) <;> cases h5 : (k == 3)
  all_goals simp [h3, h4, h5] at h
  all_goals
    go_enter Tryz.func4, Tryz.ntmps4
    go_wp2_with (first
      | ((with_reducible refine (HN.out _).mono ?_); rintro e w1 ⟨rfl, hg1⟩; obtain ⟨hc1, hf1⟩ := bcell hg1)
      | ((with_reducible refine (HO.out _).mono ?_); rintro e w2 ⟨rfl, hg2⟩; obtain ⟨hc2, hf2⟩ := bcell hg2; have z2 : w.heap.size < w1.heap.size := (by have hh := hg1.size; (try simp at hh); omega)))
    go_returns
    exact ⟨rfl, by repeat' (first | exact Below.refl _ _ | refine below_alloc ?_ _ | refine below_step ?_ (by assumption))⟩

set_option maxHeartbeats 1600000 in
theorem cnew_yes (n at_ id k s t x v : Int) (w : World) (h : newB n at_ id k s t x v = true) :
    Calls Tryz.prog 4 #[.int .i64 n, .int .i64 at_, .int .u64 id, client4 k s t x, .int .u64 v] w fun e w' => (∃ b, e = .returned (.tuple #[.pointer (some ⟨b, 0, none⟩), .int .i64 0]) ∧ w.heap.size ≤ b ∧ w'.heap[b]? = some (.cells (callNew n at_ id k s t x v) 68 (0, 0))) ∧ Below w.heap.size w w' := by
  have hn := fun W => nodes_any n at_ id W
  have ho := fun W => cok_any k s t x W
  unfold newB at h
  simp only [Bool.and_eq_true, decide_eq_true_eq] at h
  obtain ⟨⟨⟨h1, h2⟩, h3⟩, h6⟩ := h
  rw [h1] at hn
  rw [h2] at ho
  have HN := hide hn
  have HO := hide ho
  have d : decide (281474976710656 < v) = false := decide_eq_false (by omega)
  clear hn ho h1 h2
  cases h4 : (v == 0) <;> cases h5 : (k == 3)
  all_goals simp [h4, h5] at h6
  all_goals
    go_enter Tryz.func4, Tryz.ntmps4
    go_wp2_with (first
      | ((with_reducible refine (HN.out _).mono ?_); rintro e w1 ⟨rfl, hg1⟩; obtain ⟨hc1, hf1⟩ := bcell hg1)
      | ((with_reducible refine (HO.out _).mono ?_); rintro e w2 ⟨rfl, hg2⟩; obtain ⟨hc2, hf2⟩ := bcell hg2; have z2 : w.heap.size < w1.heap.size := (by have hh := hg1.size; (try simp at hh); omega); have z3 : w.heap.size < w2.heap.size := (by have hh := hg2.size; omega)))
    go_returns
    refine ⟨⟨w2.heap.size, rfl, by omega, heap_alloc_new w2 _⟩, by repeat' (first | exact Below.refl _ _ | refine below_alloc ?_ _ | refine below_step ?_ (by assumption))⟩
theorem cneed_any (n : Int) (w : World) (h0 : 0 ≤ n) (h1 : n ≤ 1000) : Calls Tryz.prog 6 #[.int .i64 n] w fun e w' => e = .returned (.int .i64 (n / 2 + 1)) ∧ Below w.heap.size w w' := by
  go_enter Tryz.func6, Tryz.ntmps6
  go_wp2
  go_ret
  exact ⟨rfl, Below.refl _ _⟩

/-- What one node told, with where its items lie. -/
structure Gt where
  n : Int
  A : Option Addr
  c : Nat
  L : List It
def Gt.cells (x : Gt) : List Value := [.int .u64 x.n, .slice x.A x.L.length x.c]
theorem Gt.cells_len (x : Gt) : (Gt.cells x).length = 2 := rfl
theorem Gt.cells_one (x : Gt) : ∀ u ∈ Gt.cells x, u.oneCell' = true := by
  intro u hu
  simp only [Gt.cells, List.mem_cons, List.not_mem_nil, or_false] at hu
  rcases hu with rfl | rfl <;> rfl
theorem Tryz.infoGot : (Tryz.prog.info? 75).map (fun i => (i.zero, i.size, i.bytes)) = some (some (.agg #[.int .u64 0, .slice none 0 0]), 2, 32) := by kernel_rfl
def Gt.rd (w : World) (x : Gt) : Prop := ItemsAt w x.A x.L ∧ x.L.length ≤ x.c ∧ x.c ≤ maxLen
theorem Gt.rd.below {w w' : World} {x : Gt} (h : x.rd w) (hb : Below w.heap.size w w') : x.rd w' := ⟨h.1.below hb, h.2⟩
def Gt.bare (x : Gt) : Gt := { x with A := none, c := 0 }
/-- A call, as numbers. -/
structure Co where
  n : Int
  at_ : Int
  id : Int
  ck : Int
  cs : Int
  ct : Int
  cv : Int
  ver : Int
  C : Nat → Bool
  cnt : Int
  G : List Gt
  tk : Int
  d : Int
  aid : Int
  ack : Int
  acs : Int
  act : Int
  acv : Int
  ae : Int
  av : Int
  AL : List It
  dn : Bool
/-- Its block. -/
def coL (R : Co) (m : Int) (vg va : Value) : List Value := [.int .i64 R.n, .int .i64 R.at_, .int .u64 R.id, .int .i64 R.ck, .int .i64 R.cs, .int .u64 R.ct, .int .i64 R.cv, .int .u64 R.ver] ++ (List.range 7).map (fun k => .bool (R.C k)) ++ [.int .i64 R.cnt, vg, .int .i64 R.tk, .int .u32 R.d, .int .i32 m, .int .u32 0, .int .u64 R.aid, .int .i64 R.ack, .int .i64 R.acs, .int .u64 R.act, .int .i64 R.acv, .int .i64 R.ae, .int .u64 R.av, va, .bool R.dn]
theorem coL_C (R : Co) (m : Int) (vg va : Value) {k : Nat} (hk : k < 7) : (coL R m vg va)[8 + k]? = some (.bool (R.C k)) := by
  match k, hk with
  | 0, _ => rfl
  | 1, _ => rfl
  | 2, _ => rfl
  | 3, _ => rfl
  | 4, _ => rfl
  | 5, _ => rfl
  | 6, _ => rfl
/-- What the nodes told: the row and what it points to. -/
structure CoG (w : World) (b : Nat) (X : Nat → Prop) (vg : Value) (G : List Gt) : Prop where
  row : ∃ N : List Gt, N.map Gt.bare = G ∧ OwnL Gt.cells 2 75 (b + 1) w vg N ∧ (∀ y ∈ N, y.rd w) ∧ ∀ y ∈ N, ∀ a, y.A = some a → y.L ≠ [] → X a.block ∧ a.block ≠ b ∧ vg.ownBlock ≠ some a.block
  x : ∀ g, vg.ownBlock = some g → X g
/-- The answer's items. -/
def CoA (w : World) (b : Nat) (X : Nat → Prop) (vg va : Value) (L : List It) : Prop := Sl w va L ∧ ∀ g, va.ownBlock = some g → X g ∧ g ≠ b ∧ vg.ownBlock ≠ some g
/-- A call behind w0, its blocks X. -/
structure CoO (w0 w : World) (b : Nat) (X : Nat → Prop) (R : Co) : Prop where
  row : ∃ vg va, w.heap[b]? = some (.cells (coL R 0 vg va).toArray 68 (0, 0)) ∧ CoG w b X vg R.G ∧ CoA w b X vg va R.AL
  low : Below w0.heap.size w0 w
  xb : X b
  xs : ∀ g, X g → w0.heap.size ≤ g ∧ g < w.heap.size
/-- The blocks that came to it. -/
def Xn (X : Nat → Prop) (w w' : World) (g : Nat) : Prop := X g ∨ (w.heap.size ≤ g ∧ g < w'.heap.size)
theorem sl_sets_ {S : Nat → Prop} {w w' : World} {v : Value} {L : List It} (h : Sl w v L) (k : Sets S w w') (hS : ∀ g, v.ownBlock = some g → ¬ S g) : Sl w' v L := by
  obtain ⟨A, c, rfl, hr, h1, h2⟩ := h
  refine ⟨A, c, rfl, fun hne => ?_, h1, h2⟩
  obtain ⟨b, off, rfl, hlt, hc⟩ := hr hne
  exact ⟨b, off, rfl, Nat.lt_of_lt_of_le hlt k.size, fun j hj i u hu => (World.cell?_of_block (k.block b hlt (hS b rfl))).trans (hc j hj i u hu)⟩
section
variable {w0 w w' : World} {b : Nat} {X Y S : Nat → Prop} {R : Co} {vg va : Value} {G : List Gt} {L : List It}
theorem CoG.lt (h : CoG w b X vg G) : ∀ g, vg.ownBlock = some g → b + 1 ≤ g ∧ g < w.heap.size := by
  obtain ⟨N, _, h1, _⟩ := h.row
  exact OwnL.lt h1
theorem CoG.sets (h : CoG w b X vg G) (k : Sets S w w') (hS : ∀ g, X g → g ≠ b → ¬ S g) : CoG w' b X vg G := by
  obtain ⟨N, h1, h2, h3, h4⟩ := h.row
  exact ⟨⟨N, h1, OwnL.sets h2 k (fun g hg => hS g (h.x g hg) (by have := (OwnL.lt h2 g hg).1; omega)),
    fun y hy => ⟨(h3 y hy).1.sets k (fun a ha hn => hS _ (h4 y hy a ha hn).1 (h4 y hy a ha hn).2.1), (h3 y hy).2⟩, h4⟩, h.x⟩
theorem CoG.up (h : CoG w b X vg G) (hX : ∀ g, X g → Y g) : CoG w b Y vg G := by
  obtain ⟨N, h1, h2, h3, h4⟩ := h.row
  exact ⟨⟨N, h1, h2, h3, fun y hy a ha hn => ⟨hX _ (h4 y hy a ha hn).1, (h4 y hy a ha hn).2⟩⟩, fun g hg => hX g (h.x g hg)⟩
theorem CoA.sets (h : CoA w b X vg va L) (k : Sets S w w') (hS : ∀ g, X g → g ≠ b → ¬ S g) : CoA w' b X vg va L := ⟨sl_sets_ h.1 k (fun g hg => hS g (h.2 g hg).1 (h.2 g hg).2.1), h.2⟩
theorem CoA.up (h : CoA w b X vg va L) (hX : ∀ g, X g → Y g) : CoA w b Y vg va L := ⟨h.1, fun g hg => ⟨hX g (h.2 g hg).1, (h.2 g hg).2⟩⟩
theorem CoA.nil_ (w : World) (b : Nat) (X : Nat → Prop) (vg : Value) : CoA w b X vg (.slice none 0 0) [] := ⟨Sl.nil_ _, fun g hg => by cases hg⟩
theorem CoG.nil_ (w : World) (b : Nat) (X : Nat → Prop) : CoG w b X (.slice none 0 0) [] := ⟨⟨[], rfl, OwnL.nil_ _ _ _ _ _, fun y hy => (by cases hy), fun y hy => (by cases hy)⟩, fun g hg => (by cases hg)⟩
theorem CoO.lt (h : CoO w0 w b X R) : b < w.heap.size := (h.xs b h.xb).2
theorem CoO.old (h : CoO w0 w b X R) : w0.heap.size ≤ b := (h.xs b h.xb).1
/-- What writes to none of a call's blocks leaves it. -/
theorem CoO.sets (h : CoO w0 w b X R) (k : Sets S w w') (hS : ∀ g, X g → ¬ S g) (hl : Below w0.heap.size w0 w') : CoO w0 w' b X R := by
  obtain ⟨vg, va, hb, h1, h2⟩ := h.row
  exact ⟨⟨vg, va, (k.block b h.lt (hS b h.xb)).trans hb, h1.sets k (fun g hg _ => hS g hg), h2.sets k (fun g hg _ => hS g hg)⟩, hl, h.xb, fun g hg => ⟨(h.xs g hg).1, Nat.lt_of_lt_of_le (h.xs g hg).2 k.size⟩⟩
theorem CoO.below (h : CoO w0 w b X R) (hb : Below w.heap.size w w') : CoO w0 w' b X R := h.sets (Sets.of (S := fun _ => False) hb) (fun _ _ h => h) (below_step h.low hb)
/-- The block turned, what it points to not. -/
theorem CoO.put {R' : Co} (h : CoO w0 w b X R) (hg : CoG w b X vg R.G) (ha : CoA w b X vg va R.AL) (hb' : w'.heap[b]? = some (.cells (coL R' 0 vg va).toArray 68 (0, 0))) (hG : R'.G = R.G) (hA : R'.AL = R.AL) (hS : Sets (fun g => g = b) w w') : CoO w0 w' b X R' :=
  ⟨⟨vg, va, hb', by rw [hG]; exact hg.sets hS (fun g _ hn => hn), by rw [hA]; exact ha.sets hS (fun g _ hn => hn)⟩, Sets.below h.low hS (fun g e => by rw [e]; exact h.old) h.low.size, h.xb, fun g hg => ⟨(h.xs g hg).1, Nat.lt_of_lt_of_le (h.xs g hg).2 hS.size⟩⟩
theorem CoO.more (h : CoO w0 w b X R) (hX : ∀ g, X g → Y g) (hY : ∀ g, Y g → w0.heap.size ≤ g ∧ g < w.heap.size) : CoO w0 w b Y R := by
  obtain ⟨vg, va, hb, h1, h2⟩ := h.row
  exact ⟨⟨vg, va, hb, h1.up hX, h2.up hX⟩, h.low, hX b h.xb, hY⟩
end
/-- A call that nobody answered. -/
def co0 (n a id k s t x v : Int) : Co := ⟨n, a, id, k, s, t, x, v, fun _ => false, 0, [], 0, 0, 0, 0, 0, 0, 0, 0, 0, [], false⟩
theorem cnew_co (n a id k s t x v : Int) (w : World) (h : newB n a id k s t x v = true) :
    Calls Tryz.prog 4 #[.int .i64 n, .int .i64 a, .int .u64 id, client4 k s t x, .int .u64 v] w fun e w' => ∃ b, e = .returned (.tuple #[.pointer (some ⟨b, 0, none⟩), .int .i64 0]) ∧ CoO w w' b (fun g => g = b) (co0 n a id k s t x v) := by
  refine Calls.mono (cnew_yes n a id k s t x v w h) ?_
  rintro e w' ⟨⟨b, rfl, h1, h2⟩, h3⟩
  have hlt := (Array.getElem?_eq_some_iff.1 h2).1
  exact ⟨b, rfl, ⟨_, _, h2, CoG.nil_ _ _ _, CoA.nil_ _ _ _ _⟩, h3, rfl, fun g e => by subst e; exact ⟨h1, hlt⟩⟩
end Go.Proofs.YtlabpgdimhbocaaGreat
