/- round.Round: how it lies; New, Items, to: contracts. Conditions: the round as it lies. -/
import Derived.Test.YtikecafblampeaaMsg3
import Derived.Test.YtikecafblampeaaMgB
import Derived.Test.YtikecafblampeaaPSt
import Derived.Test.YtikecafblampeaaApp
import Derived.Test.YtikecafblampeaaOg
import Derived.Test.YtikecafblampeaaJ
import Derived.Test.YtikecafblampeaaSets
namespace Go.Proofs.Ytikecafblampeaa
set_option linter.unusedVariables false
set_option linter.unusedSimpArgs false
open Go.ChangeShapes Go.WideShapes Go.ChangeAt Go.RowKit

def nodesB (n at_ id : Int) : Bool := decide (1 ≤ n ∧ n ≤ 7 ∧ 0 ≤ at_ ∧ at_ < n ∧ 1 ≤ id ∧ id ≤ 1099511627776)
set_option maxHeartbeats 1600000 in
theorem nodes_any (n at_ id : Int) (w : World) : Calls Try.prog 27 #[.int .i64 n, .int .i64 at_, .int .u64 id] w fun e w' => e = .returned (.bool (nodesB n at_ id)) ∧ Below w.heap.size w w' := by
  by_cases h0 : 1 ≤ n
  case neg =>
    first | rw [show nodesB n at_ id = true from decide_eq_true (by omega)] | rw [show nodesB n at_ id = false from decide_eq_false (by omega)]
    go_enter Try.func27, Try.ntmps27
    go_wp2
    go_ret
    exact ⟨by simp; try omega, Below.refl _ _⟩
  by_cases h1 : n ≤ 7
  case neg =>
    first | rw [show nodesB n at_ id = true from decide_eq_true (by omega)] | rw [show nodesB n at_ id = false from decide_eq_false (by omega)]
    go_enter Try.func27, Try.ntmps27
    go_wp2
    go_ret
    exact ⟨by simp; try omega, Below.refl _ _⟩
  by_cases h2 : 0 ≤ at_
  case neg =>
    first | rw [show nodesB n at_ id = true from decide_eq_true (by omega)] | rw [show nodesB n at_ id = false from decide_eq_false (by omega)]
    go_enter Try.func27, Try.ntmps27
    go_wp2
    go_ret
    exact ⟨by simp; try omega, Below.refl _ _⟩
  by_cases h3 : at_ < n
  case neg =>
    first | rw [show nodesB n at_ id = true from decide_eq_true (by omega)] | rw [show nodesB n at_ id = false from decide_eq_false (by omega)]
    go_enter Try.func27, Try.ntmps27
    go_wp2
    go_ret
    exact ⟨by simp; try omega, Below.refl _ _⟩
  by_cases h4 : 1 ≤ id
  case neg =>
    first | rw [show nodesB n at_ id = true from decide_eq_true (by omega)] | rw [show nodesB n at_ id = false from decide_eq_false (by omega)]
    go_enter Try.func27, Try.ntmps27
    go_wp2
    go_ret
    exact ⟨by simp; try omega, Below.refl _ _⟩
  by_cases h5 : id ≤ 1099511627776
  case neg =>
    first | rw [show nodesB n at_ id = true from decide_eq_true (by omega)] | rw [show nodesB n at_ id = false from decide_eq_false (by omega)]
    go_enter Try.func27, Try.ntmps27
    go_wp2
    go_ret
    exact ⟨by simp; try omega, Below.refl _ _⟩
  first | rw [show nodesB n at_ id = true from decide_eq_true (by omega)] | rw [show nodesB n at_ id = false from decide_eq_false (by omega)]
  go_enter Try.func27, Try.ntmps27
  go_wp2
  go_ret
  exact ⟨by simp; try omega, Below.refl _ _⟩

theorem j_startD {P : Program} {ops : Array Oper} {Q : Exit → Act → World → Prop} (F : List Nat) {id : Nat} {a : Act} {w u : World} (hu : w.drew = u) (hm : P.follows .mixedOrders = true) (h : wpAnyJ P .any ops (NoPanic Q) F (Bel u) ops.size (Array.replicate ops.size false) a u) : (Code.region id ops true).wp P Q a w := by
  subst hu
  exact wp_region_noPanic (wp_region_any hm (wpAny_of_J _ _ _ _ h))
theorem Sets.set6r {S : Nat → Prop} {w w' : World} (h : Sets S w w') {g : Nat} (hg : g < w.heap.size → S g) (v0 v1 v2 v3 v4 v5 : Value) : Sets S w ((((((w'.setCell ⟨g, 0, none⟩ v0).setCell ⟨g, 1, none⟩ v1).setCell ⟨g, 2, none⟩ v2).setCell ⟨g, 3, none⟩ v3).setCell ⟨g, 4, none⟩ v4).setCell ⟨g, 5, none⟩ v5) :=
  (((((h.set hg 0 v0).set hg 1 v1).set hg 2 v2).set hg 3 v3).set hg 4 v4).set hg 5 v5
/-- A round, as numbers. -/
structure Rs where
  n : Int
  at_ : Int
  id : Int
  f : Int
  ph : Int
  C : Nat → Bool
  cnt : Int
  L : List It
  tk : Int
  d : Int
  aid : Int
  ae : Int
  av : Int
/-- A round's block. -/
def rsL (R : Rs) (m : Int) (v : Value) : List Value := [.int .i64 R.n, .int .i64 R.at_, .int .u64 R.id, .int .u64 R.f, .int .i64 R.ph] ++ (List.range 7).map (fun k => .bool (R.C k)) ++ [.int .i64 R.cnt, v, .int .i64 R.tk, .int .u32 R.d, .int .i32 m, .int .u32 0, .int .u64 R.aid, .int .i64 0, .int .i64 0, .int .u64 0, .int .i64 0, .int .i64 R.ae, .int .u64 R.av, .slice none 0 0]
theorem cell_of_list {w : World} {b o : Nat} {l : List Value} {t : TypeId} {fr : Nat × Nat} (h : w.heap[b]? = some (.cells l.toArray t fr)) : w.cell? ⟨b, o, none⟩ = l[o]? := (cell_of_row w b o _ _ _ h).trans (by simp)
theorem set_of_list {w : World} {b o : Nat} {l : List Value} {t : TypeId} {fr : Nat × Nat} (h : w.heap[b]? = some (.cells l.toArray t fr)) (v : Value) : (w.setCell ⟨b, o, none⟩ v).heap[b]? = some (.cells (l.set o v).toArray t fr) := by
  simp [World.setCell, Array.getElem?_modify, h]
theorem Og.sets_ {S : Nat → Prop} {base : Nat} {w w' : World} {v : Value} {L : List It} (h : Og base w v L) (k : Sets S w w') (hS : ∀ g, base ≤ g → ¬ S g) : Og base w' v L := by
  rcases h with h | ⟨g, cap, R, e, hb, hh, h1, h2, h3⟩
  · exact .inl h
  · exact .inr ⟨g, cap, R, e, hb, (k.block g (Array.getElem?_eq_some_iff.1 hh).1 (hS g hb)).trans hh, h1, h2, h3⟩
/-- A round behind w0. -/
structure RndO (w0 w : World) (b : Nat) (R : Rs) : Prop where
  row : ∃ v, w.heap[b]? = some (.cells (rsL R 0 v).toArray 79 (0, 0)) ∧ Og (b + 1) w v R.L
  low : Below w0.heap.size w0 w
  old : w0.heap.size ≤ b
theorem RndO.lt {w0 w : World} {b : Nat} {R : Rs} (h : RndO w0 w b R) : b < w.heap.size := by
  obtain ⟨v, hb, _⟩ := h.row
  exact (Array.getElem?_eq_some_iff.1 hb).1
theorem RndO.below {w0 w w' : World} {b : Nat} {R : Rs} (h : RndO w0 w b R) (hb : Below w.heap.size w w') : RndO w0 w' b R := by
  obtain ⟨v, h1, h2⟩ := h.row
  exact ⟨⟨v, (hb.block b h.lt).trans h1, h2.sets_ (Sets.of (S := fun _ => False) hb) (fun _ _ h => h)⟩, below_step h.low hb, h.old⟩
/-- A round that nobody answered. -/
def rs0 (n a id f : Int) : Rs := ⟨n, a, id, f, 1, fun _ => false, 0, [], 0, 0, 0, 0, 0⟩
set_option maxRecDepth 100000 in
set_option maxHeartbeats 1600000 in
theorem rnew_good (n a id f : Int) (w : World) (h : nodesB n a id = true) (h1 : 1 ≤ f) (h2 : f ≤ 281474976710656) :
    Calls Try.prog 8 #[.int .i64 n, .int .i64 a, .int .u64 id, .int .u64 f] w fun e w' => ∃ b, e = .returned (.tuple #[.pointer (some ⟨b, 0, none⟩), .int .i64 0]) ∧ RndO w w' b (rs0 n a id f) := by
  have HN := hide (nodes_any n a id w)
  rw [h] at HN
  have g1 : ¬ f < 1 := by omega
  have g2 : ¬ 281474976710656 < f := by omega
  clear h
  go_enter Try.func8, Try.ntmps8
  go_wp2_with fail
  refine (Calls.mono HN.out ?_); rintro e w1 ⟨rfl, hb1⟩
  have HB1 := hide hb1
  clear hb1 HN
  have hz := heap_alloc_new w1 (.cells (rsL (rs0 n a id f) 0 (.slice none 0 0)).toArray 79)
  have hal := below_alloc (Below.refl w1.heap.size w1) (.cells (rsL (rs0 n a id f) 0 (.slice none 0 0)).toArray 79)
  have HZ := hide hz
  have HAL := hide hal
  clear hz hal
  go_wp2_with fail
  refine bodyPost_ret (v := .tuple #[.pointer (some ⟨w1.heap.size, 0, none⟩), .int .i64 0]) (by simp [results, Try.results8]) rfl ?_
  exact ⟨w1.heap.size, rfl, ⟨_, HZ.out, .inl ⟨rfl, rfl⟩⟩, below_step HB1.out HAL.out, HB1.out.size⟩
set_option maxRecDepth 100000 in
set_option maxHeartbeats 1600000 in
theorem ritems_any {w0 w : World} {b : Nat} {R : Rs} (h : RndO w0 w b R) (hl : R.L.length ≤ 1099511627776) : Calls Try.prog 12 #[.pointer (some ⟨b, 0, none⟩)] w (RetOw R.L w) := by
  obtain ⟨v, hb, ho⟩ := h.row
  obtain ⟨A, c, rfl, hr, _, _⟩ := ho.sl
  have c13 : w.cell? ⟨b, 13, none⟩ = some (.slice A R.L.length c) := (cell_of_list (o := 13) hb).trans rfl
  have HR := hide hr
  have hbl := h.lt
  clear h hb ho hr
  go_enter Try.func12, Try.ntmps12
  go_wp2_with (at_builtin; refine wpList_append_items rfl (.const (.slice none 0 0)) (.tmp 6) rfl w.heap.size w.heap.size w w _ [] A R.L.length c R.L rfl rfl rfl HR.out (Ow.nil_ _ _) (Below.refl _ _) (Nat.le_refl _) (Nat.le_refl _) (by simp only [List.length_nil]; omega) ?_; intro v2 w2 ho2 hb2 hg2; rw [List.nil_append] at ho2; have HO2 := hide ho2; have HB2 := hide hb2; clear ho2 hb2 hg2)
  go_ret
  exact ⟨v2, rfl, HO2.out, HB2.out⟩
/-- A message of a round. -/
def toM (R : Rs) (node kind : Int) : Mg := ⟨kind, R.at_, node, R.id, R.f, none, 0, if kind = 8 then R.L else []⟩
set_option maxRecDepth 100000 in
set_option maxHeartbeats 3200000 in
theorem rto_any {w0 w : World} {b : Nat} {R : Rs} (h : RndO w0 w b R) (hl : R.L.length ≤ 1099511627776) (node kind : Int) : Calls Try.prog 54 #[.pointer (some ⟨b, 0, none⟩), .int .i64 node, .int .i64 kind] w fun e w' => ∃ x : Mg, e = .returned x.val ∧ x.bare = toM R node kind ∧ x.rd w' ∧ (∀ a, x.A = some a → x.L ≠ [] → w.heap.size ≤ a.block) ∧ Below w.heap.size w w' := by
  have hba := below_alloc (Below.refl w.heap.size w) (.cells #[.int .i64 0, .int .i64 0, .int .i64 0, .int .u64 0, .int .u64 0, .slice none 0 0] 30)
  have hz1 := heap_alloc_new w (.cells #[.int .i64 0, .int .i64 0, .int .i64 0, .int .u64 0, .int .u64 0, .slice none 0 0] 30)
  obtain ⟨w1, hw1⟩ : ∃ w1, w.alloc (.cells #[.int .i64 0, .int .i64 0, .int .i64 0, .int .u64 0, .int .u64 0, .slice none 0 0] 30) = w1 := ⟨_, rfl⟩
  rw [hw1] at hba hz1
  have h1 := h.below hba
  have HI := hide (fun (u : World) (hu : RndO w0 u b R) => ritems_any hu hl)
  obtain ⟨v, hb, ho⟩ := h1.row
  have hbl := h1.lt
  have HC : Hid (∀ W : World, Below w1.heap.size w1 W → W.cell? ⟨b, 0, none⟩ = some (.int .i64 R.n) ∧ W.cell? ⟨b, 1, none⟩ = some (.int .i64 R.at_) ∧ W.cell? ⟨b, 2, none⟩ = some (.int .u64 R.id) ∧ W.cell? ⟨b, 3, none⟩ = some (.int .u64 R.f) ∧ W.cell? ⟨b, 4, none⟩ = some (.int .i64 R.ph)) := hide (fun W hW => by
    have hk := (hW.block b hbl).trans hb
    exact ⟨(cell_of_list (o := 0) hk).trans rfl, (cell_of_list (o := 1) hk).trans rfl, (cell_of_list (o := 2) hk).trans rfl, (cell_of_list (o := 3) hk).trans rfl, (cell_of_list (o := 4) hk).trans rfl⟩)
  have H1 := hide h1
  have HBA := hide hba
  have HZ0 := hide hz1
  have HW1 := hide hw1
  obtain ⟨g6, hg6⟩ : ∃ g6, w.heap.size = g6 := ⟨_, rfl⟩
  have HG6 := hide hg6
  rw [hg6] at HZ0
  clear h h1 hb ho hba hz1 hw1 hg6
  go_enter Try.func54, Try.ntmps54
  go_upto_region 1 with fail
  try rw [HW1.out]
  try rw [HG6.out]
  obtain ⟨ud, hud⟩ : ∃ ud, w1.drew = ud := ⟨_, rfl⟩
  have HUD : Hid (Below w1.heap.size w1 ud) := hide (by rw [← hud]; exact (Below.refl _ _).drew)
  refine j_startD [16] hud (by kernel_rfl) ?_
  clear hud
  refine' j_take (i := 0) (v := _) [14, 16] ?hi0 (by kernel_rfl) (by kernel_rfl) (by kernel_rfl) (by kernel_rfl) (by kernel_rfl) (Or.inl ⟨?hw0, ?hy0⟩) ?rest0
  case hi0 => (simp only [List.getElem?_toArray, List.getElem?_cons_succ, List.getElem?_cons_zero]; rfl)
  case hw0 => rfl
  case hy0 => (intro w' hw'; go_simp; try with_reducible rfl)
  try simp only [Act.put, List.setIfInBounds_toArray, List.set_cons_zero, List.set_cons_succ]
  refine' j_take (i := 1) (v := _) [2, 3, 4, 14, 16] ?hi1 (by kernel_rfl) (by kernel_rfl) (by kernel_rfl) (by kernel_rfl) (by kernel_rfl) (Or.inl ⟨?hw1, ?hy1⟩) ?rest1
  case hi1 => (simp only [List.getElem?_toArray, List.getElem?_cons_succ, List.getElem?_cons_zero]; rfl)
  case hw1 => rfl
  case hy1 => (intro w' hw'; go_simp; try with_reducible rfl)
  try simp only [Act.put, List.setIfInBounds_toArray, List.set_cons_zero, List.set_cons_succ]
  refine' j_take (i := 2) (v := _) [3, 4, 14, 16] ?hi2 (by kernel_rfl) (by kernel_rfl) (by kernel_rfl) (by kernel_rfl) (by kernel_rfl) (Or.inl ⟨?hw2, ?hy2⟩) ?rest2
  case hi2 => (simp only [List.getElem?_toArray, List.getElem?_cons_succ, List.getElem?_cons_zero]; rfl)
  case hw2 => rfl
  case hy2 => (intro w' hw'; go_simp; try with_reducible rfl)
  try simp only [Act.put, List.setIfInBounds_toArray, List.set_cons_zero, List.set_cons_succ]
  refine' j_take (i := 3) (v := _) [4, 14, 16] ?hi3 (by kernel_rfl) (by kernel_rfl) (by kernel_rfl) (by kernel_rfl) (by kernel_rfl) (Or.inl ⟨?hw3, ?hy3⟩) ?rest3
  case hi3 => (simp only [List.getElem?_toArray, List.getElem?_cons_succ, List.getElem?_cons_zero]; rfl)
  case hw3 => rfl
  case hy3 => (intro w' hw'; go_simp; try with_reducible rfl)
  try simp only [Act.put, List.setIfInBounds_toArray, List.set_cons_zero, List.set_cons_succ]
  refine' j_take (i := 4) (v := _) [14, 16] ?hi4 (by kernel_rfl) (by kernel_rfl) (by kernel_rfl) (by kernel_rfl) (by kernel_rfl) (Or.inl ⟨?hw4, ?hy4⟩) ?rest4
  case hi4 => (simp only [List.getElem?_toArray, List.getElem?_cons_succ, List.getElem?_cons_zero]; rfl)
  case hw4 => rfl
  case hy4 => (intro w' hw'; obtain ⟨j0, j1, j2, j3, j4⟩ := HC.out _ (below_step HUD.out hw'); go_simp; try with_reducible rfl)
  try simp only [Act.put, List.setIfInBounds_toArray, List.set_cons_zero, List.set_cons_succ]
  refine' j_take (i := 5) (v := _) [14, 16] ?hi5 (by kernel_rfl) (by kernel_rfl) (by kernel_rfl) (by kernel_rfl) (by kernel_rfl) (Or.inl ⟨?hw5, ?hy5⟩) ?rest5
  case hi5 => (simp only [List.getElem?_toArray, List.getElem?_cons_succ, List.getElem?_cons_zero]; rfl)
  case hw5 => rfl
  case hy5 => (intro w' hw'; go_simp; try with_reducible rfl)
  try simp only [Act.put, List.setIfInBounds_toArray, List.set_cons_zero, List.set_cons_succ]
  refine' j_take (i := 6) (v := _) [7, 8, 9, 14, 16] ?hi6 (by kernel_rfl) (by kernel_rfl) (by kernel_rfl) (by kernel_rfl) (by kernel_rfl) (Or.inl ⟨?hw6, ?hy6⟩) ?rest6
  case hi6 => (simp only [List.getElem?_toArray, List.getElem?_cons_succ, List.getElem?_cons_zero]; rfl)
  case hw6 => rfl
  case hy6 => (intro w' hw'; go_simp; try with_reducible rfl)
  try simp only [Act.put, List.setIfInBounds_toArray, List.set_cons_zero, List.set_cons_succ]
  refine' j_take (i := 7) (v := _) [8, 9, 14, 16] ?hi7 (by kernel_rfl) (by kernel_rfl) (by kernel_rfl) (by kernel_rfl) (by kernel_rfl) (Or.inl ⟨?hw7, ?hy7⟩) ?rest7
  case hi7 => (simp only [List.getElem?_toArray, List.getElem?_cons_succ, List.getElem?_cons_zero]; rfl)
  case hw7 => rfl
  case hy7 => (intro w' hw'; go_simp; try with_reducible rfl)
  try simp only [Act.put, List.setIfInBounds_toArray, List.set_cons_zero, List.set_cons_succ]
  refine' j_take (i := 8) (v := _) [9, 14, 16] ?hi8 (by kernel_rfl) (by kernel_rfl) (by kernel_rfl) (by kernel_rfl) (by kernel_rfl) (Or.inl ⟨?hw8, ?hy8⟩) ?rest8
  case hi8 => (simp only [List.getElem?_toArray, List.getElem?_cons_succ, List.getElem?_cons_zero]; rfl)
  case hw8 => rfl
  case hy8 => (intro w' hw'; go_simp; try with_reducible rfl)
  try simp only [Act.put, List.setIfInBounds_toArray, List.set_cons_zero, List.set_cons_succ]
  refine' j_take (i := 9) (v := _) [14, 16] ?hi9 (by kernel_rfl) (by kernel_rfl) (by kernel_rfl) (by kernel_rfl) (by kernel_rfl) (Or.inl ⟨?hw9, ?hy9⟩) ?rest9
  case hi9 => (simp only [List.getElem?_toArray, List.getElem?_cons_succ, List.getElem?_cons_zero]; rfl)
  case hw9 => rfl
  case hy9 => (intro w' hw'; obtain ⟨j0, j1, j2, j3, j4⟩ := HC.out _ (below_step HUD.out hw'); go_simp; try with_reducible rfl)
  try simp only [Act.put, List.setIfInBounds_toArray, List.set_cons_zero, List.set_cons_succ]
  refine' j_take (i := 10) (v := _) [11, 12, 13, 14, 16] ?hi10 (by kernel_rfl) (by kernel_rfl) (by kernel_rfl) (by kernel_rfl) (by kernel_rfl) (Or.inl ⟨?hw10, ?hy10⟩) ?rest10
  case hi10 => (simp only [List.getElem?_toArray, List.getElem?_cons_succ, List.getElem?_cons_zero]; rfl)
  case hw10 => rfl
  case hy10 => (intro w' hw'; go_simp; try with_reducible rfl)
  try simp only [Act.put, List.setIfInBounds_toArray, List.set_cons_zero, List.set_cons_succ]
  refine' j_take (i := 11) (v := _) [12, 13, 14, 16] ?hi11 (by kernel_rfl) (by kernel_rfl) (by kernel_rfl) (by kernel_rfl) (by kernel_rfl) (Or.inl ⟨?hw11, ?hy11⟩) ?rest11
  case hi11 => (simp only [List.getElem?_toArray, List.getElem?_cons_succ, List.getElem?_cons_zero]; rfl)
  case hw11 => rfl
  case hy11 => (intro w' hw'; go_simp; try with_reducible rfl)
  try simp only [Act.put, List.setIfInBounds_toArray, List.set_cons_zero, List.set_cons_succ]
  refine' j_take (i := 12) (v := _) [13, 14, 16] ?hi12 (by kernel_rfl) (by kernel_rfl) (by kernel_rfl) (by kernel_rfl) (by kernel_rfl) (Or.inl ⟨?hw12, ?hy12⟩) ?rest12
  case hi12 => (simp only [List.getElem?_toArray, List.getElem?_cons_succ, List.getElem?_cons_zero]; rfl)
  case hw12 => rfl
  case hy12 => (intro w' hw'; go_simp; try with_reducible rfl)
  try simp only [Act.put, List.setIfInBounds_toArray, List.set_cons_zero, List.set_cons_succ]
  refine' j_take (i := 13) (v := _) [14, 16] ?hi13 (by kernel_rfl) (by kernel_rfl) (by kernel_rfl) (by kernel_rfl) (by kernel_rfl) (Or.inl ⟨?hw13, ?hy13⟩) ?rest13
  case hi13 => (simp only [List.getElem?_toArray, List.getElem?_cons_succ, List.getElem?_cons_zero]; rfl)
  case hw13 => rfl
  case hy13 => (intro w' hw'; obtain ⟨j0, j1, j2, j3, j4⟩ := HC.out _ (below_step HUD.out hw'); go_simp; try with_reducible rfl)
  try simp only [Act.put, List.setIfInBounds_toArray, List.set_cons_zero, List.set_cons_succ]
  refine' j_take (i := 14) (v := _) [16] ?hi14 (by kernel_rfl) (by kernel_rfl) (by kernel_rfl) (by kernel_rfl) (by kernel_rfl) (Or.inl ⟨?hw14, ?hy14⟩) ?rest14
  case hi14 => (simp only [List.getElem?_toArray, List.getElem?_cons_succ, List.getElem?_cons_zero]; rfl)
  case hw14 => rfl
  case hy14 => (intro w' hw'; go_simp; try with_reducible rfl)
  try simp only [Act.put, List.setIfInBounds_toArray, List.set_cons_zero, List.set_cons_succ]
  refine' wpAnyJ_step (i := 15) (o := _) (by kernel_rfl) ?ho15 (fun K hK => ?step15)
  case ho15 => (simp only [List.getElem?_toArray, List.getElem?_cons_succ, List.getElem?_cons_zero]; rfl)
  go_simp
  have ha := below_alloc (Below.refl ud.heap.size ud) (.cells #[.int .i64 0, .int .i64 0, .int .i64 0, .int .u64 0, .int .u64 0, .slice none 0 0] 30)
  have hz := heap_alloc_new ud (.cells #[.int .i64 0, .int .i64 0, .int .i64 0, .int .u64 0, .int .u64 0, .slice none 0 0] 30)
  obtain ⟨u1, hu1⟩ : ∃ u1, ud.alloc (.cells #[.int .i64 0, .int .i64 0, .int .i64 0, .int .u64 0, .int .u64 0, .slice none 0 0] 30) = u1 := ⟨_, rfl⟩
  obtain ⟨g7, hg7⟩ : ∃ g7, ud.heap.size = g7 := ⟨_, rfl⟩
  refine hK.out _ _ ha (j_switch ha ?_)
  clear hK K
  rw [hu1] at ha hz
  rw [hg7] at hz
  try rw [hu1]
  try rw [hg7]
  have HU1 := hide ha
  have HZ1 := hide hz
  have HG7 := hide hg7
  clear ha hz hu1 hg7
  try simp only [Act.put, List.setIfInBounds_toArray, List.set_cons_zero, List.set_cons_succ]
  refine' wpAnyJ_last (i := 16) (o := _) (by kernel_rfl) ?ho16 (by kernel_rfl) (fun K hK => ?step16)
  case ho16 => (simp only [List.getElem?_toArray, List.getElem?_cons_succ, List.getElem?_cons_zero]; rfl)
  obtain ⟨s0, s1, s2, s3, s4, s5⟩ := six_cells HZ1.out
  have sf : ∀ o, u1.frozen? ⟨g7, o, none⟩ = false := (fun o => by simp [World.frozen?, HZ1.out])
  go_simp
  refine hK.out _ _ ?_
  clear hK K s0 s1 s2 s3 s4 s5 sf
  try simp only [Act.put, List.setIfInBounds_toArray, List.set_cons_zero, List.set_cons_succ]
  refine wpAnyJ_done (by kernel_rfl) ?_ _
  refine NoPanic.normal ?_
  have HE : Hid (g6 < w1.heap.size ∧ w1.heap.size ≤ g7) := hide ⟨(Array.getElem?_eq_some_iff.1 HZ0.out).1, by rw [← HG7.out]; exact HUD.out.size⟩
  have Z4 := hide (put6m (.int .i64 kind) (.int .i64 R.at_) (.int .i64 node) (.int .u64 R.id) (.int .u64 R.f) (.slice none 0 0) HZ1.out)
  have hs4 := (((((Sets.refl (S := fun c => c = g7) u1).set (g := g7) (fun _ => rfl) 0 (.int .i64 kind)).set (g := g7) (fun _ => rfl) 1 (.int .i64 R.at_)).set (g := g7) (fun _ => rfl) 2 (.int .i64 node)).set (g := g7) (fun _ => rfl) 3 (.int .u64 R.id)).set (g := g7) (fun _ => rfl) 4 (.int .u64 R.f) |>.set (g := g7) (fun _ => rfl) 5 (.slice none 0 0)
  have HB4 := hide (Sets.below (below_step HUD.out HU1.out) hs4 (fun c e => by rw [e]; exact HE.out.2) (below_step HUD.out HU1.out).size)
  obtain ⟨w4, hw4⟩ : ∃ w4, ((((((u1.setCell ⟨g7, 0, none⟩ (.int .i64 kind)).setCell ⟨g7, 1, none⟩ (.int .i64 R.at_)).setCell ⟨g7, 2, none⟩ (.int .i64 node)).setCell ⟨g7, 3, none⟩ (.int .u64 R.id)).setCell ⟨g7, 4, none⟩ (.int .u64 R.f)).setCell ⟨g7, 5, none⟩ (.slice none 0 0)) = w4 := ⟨_, rfl⟩
  rw [hw4] at Z4 HB4
  try rw [hw4]
  have H4 := hide (H1.out.below HB4.out)
  have HZ6 := hide ((HB4.out.block g6 HE.out.1).trans HZ0.out)
  clear hs4 hw4 HZ1 HU1 HUD HC
  have hlt7 := (Array.getElem?_eq_some_iff.1 Z4.out).1
  by_cases hk : kind = 8
  · subst hk
    have HIT := hide (HI.out w4 H4.out)
    have HTM : Hid (toM R node 8 = ⟨8, R.at_, node, R.id, R.f, none, 0, R.L⟩) := hide (by unfold toM; rw [if_pos rfl])
    go_upto_region 3 with fail
    go_wp2_with fail
    refine (Calls.mono (HIT.out) ?_); rintro e w5 ⟨v5, rfl, ho5, hb5⟩
    obtain ⟨A5, c5, rfl, hr5, hge, hc5, hcm5⟩ := OwnL.row It.cells_len ho5
    have e7 := (hb5.block g7 hlt7).trans Z4.out
    have e6 := (hb5.block g6 (Nat.lt_of_lt_of_le HE.out.1 HB4.out.size)).trans HZ6.out
    have HB5 := hide (below_step HB4.out hb5)
    have HO5 := hide ho5
    have HR5 := hide hr5
    have HA5 : Hid (∀ ad, A5 = some ad → w4.heap.size ≤ ad.block ∧ ad.block < w5.heap.size) := hide (fun ad had => hge ad.block ad.off ad.spot (by rw [had]))
    have HC5 := hide (And.intro hc5 hcm5)
    obtain ⟨s0, s1, s2, s3, s4, s5⟩ := six_cells e7
    obtain ⟨t0, t1, t2, t3, t4, t5⟩ := six_cells e6
    have sf : ∀ o, w5.frozen? ⟨g7, o, none⟩ = false := fun o => by simp [World.frozen?, e7]
    have tf : ∀ o, w5.frozen? ⟨g6, o, none⟩ = false := fun o => by simp [World.frozen?, e6]
    have hne1 : ¬ g6 = g7 := by have := HE.out; omega
    have hne2 : ¬ g7 = g6 := fun e => hne1 e.symm
    have HX6 := hide e6
    have HX7 := hide e7
    clear hge ho5 hb5 hr5 hc5 hcm5 e6 e7 HIT HI
    go_wp2_with fail
    have hb6 : (w5.setCell ⟨g7, 5, none⟩ (.slice A5 R.L.length c5)).heap[g6]? = some (.cells #[.int .i64 0, .int .i64 0, .int .i64 0, .int .u64 0, .int .u64 0, .slice none 0 0] 30 (0, 0)) := (Below.heap_setCell w5 ⟨g7, 5, none⟩ _ g6 (fun e => hne1 (by simpa using e))).trans HX6.out
    have hz7 := put6m (.int .i64 8) (.int .i64 R.at_) (.int .i64 node) (.int .u64 R.id) (.int .u64 R.f) (.slice A5 R.L.length c5) hb6
    have hs7 := Sets.set6r (S := fun c => c = g6) (Sets.refl (w5.setCell ⟨g7, 5, none⟩ (.slice A5 R.L.length c5))) (g := g6) (fun _ => rfl) (.int .i64 8) (.int .i64 R.at_) (.int .i64 node) (.int .u64 R.id) (.int .u64 R.f) (.slice A5 R.L.length c5)
    obtain ⟨r0, r1, r2, r3, r4, r5⟩ := six_cells hz7
    have R0 := hide r0; have R1 := hide r1; have R2 := hide r2; have R3 := hide r3; have R4 := hide r4; have R5 := hide r5
    refine bodyPost_ret (v := .agg #[.int .i64 8, .int .i64 R.at_, .int .i64 node, .int .u64 R.id, .int .u64 R.f, (.slice A5 R.L.length c5)]) (by simp [results, Try.results54, go_sem, R0.out, R1.out, R2.out, R3.out, R4.out, R5.out]) rfl ?_
    have hs6 : Sets (fun c => c = g7) w5 (w5.setCell ⟨g7, 5, none⟩ (.slice A5 R.L.length c5)) := (Sets.refl (S := fun c => c = g7) w5).set (g := g7) (fun _ => rfl) 5 _
    have hge6 : w.heap.size ≤ g6 := Nat.le_of_eq HG6.out
    have hb7 := Sets.below (Sets.below (below_step HBA.out HB5.out) hs6 (fun c e => by rw [e]; have := HE.out; omega) (Nat.le_trans HBA.out.size HB5.out.size)) hs7 (fun c e => by rw [e]; exact hge6) (Nat.le_trans (Nat.le_trans HBA.out.size HB5.out.size) hs6.size)
    have hl4 := hlt7
    refine ⟨⟨8, R.at_, node, R.id, R.f, A5, c5, R.L⟩, rfl, by rw [HTM.out]; rfl, ⟨(HR5.out.sets hs6 (fun ad had _ e => by have := HA5.out ad had; omega)).sets hs7 (fun ad had _ e => by have := HA5.out ad had; have := HE.out; omega), HC5.out⟩, fun ad had _ => by have := HA5.out ad had; have := HE.out; omega, hb7⟩
  · have hkI : (kind == 8) = false := beq_eq_false_iff_ne.2 hk
    have HTM : Hid (toM R node kind = ⟨kind, R.at_, node, R.id, R.f, none, 0, []⟩) := hide (by unfold toM; rw [if_neg hk])
    obtain ⟨s0, s1, s2, s3, s4, s5⟩ := six_cells Z4.out
    obtain ⟨t0, t1, t2, t3, t4, t5⟩ := six_cells HZ6.out
    have tf : ∀ o, w4.frozen? ⟨g6, o, none⟩ = false := fun o => by simp [World.frozen?, HZ6.out]
    clear HI hlt7
    go_wp2_with fail
    have hb6 : (w4).heap[g6]? = some (.cells #[.int .i64 0, .int .i64 0, .int .i64 0, .int .u64 0, .int .u64 0, .slice none 0 0] 30 (0, 0)) := HZ6.out
    have hz7 := put6m (.int .i64 kind) (.int .i64 R.at_) (.int .i64 node) (.int .u64 R.id) (.int .u64 R.f) (.slice none 0 0) hb6
    have hs7 := Sets.set6r (S := fun c => c = g6) (Sets.refl (w4)) (g := g6) (fun _ => rfl) (.int .i64 kind) (.int .i64 R.at_) (.int .i64 node) (.int .u64 R.id) (.int .u64 R.f) (.slice none 0 0)
    obtain ⟨r0, r1, r2, r3, r4, r5⟩ := six_cells hz7
    have R0 := hide r0; have R1 := hide r1; have R2 := hide r2; have R3 := hide r3; have R4 := hide r4; have R5 := hide r5
    refine bodyPost_ret (v := .agg #[.int .i64 kind, .int .i64 R.at_, .int .i64 node, .int .u64 R.id, .int .u64 R.f, (.slice none 0 0)]) (by simp [results, Try.results54, go_sem, R0.out, R1.out, R2.out, R3.out, R4.out, R5.out]) rfl ?_
    have hge6 : w.heap.size ≤ g6 := Nat.le_of_eq HG6.out
    have hb7 := Sets.below (below_step HBA.out HB4.out) hs7 (fun c e => by rw [e]; exact hge6) (Nat.le_trans HBA.out.size HB4.out.size)
    exact ⟨⟨kind, R.at_, node, R.id, R.f, none, 0, []⟩, rfl, by rw [HTM.out]; rfl, ⟨RowAt.nil_, Nat.le_refl _, Nat.zero_le _⟩, (fun ad had => (by cases had)), hb7⟩
end Go.Proofs.Ytikecafblampeaa
