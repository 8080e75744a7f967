/- coord.Call: end: a contract. Conditions: the call as it lies; what items tells, where it ends well. -/
import Derived.Test.YtlabpgdimhbocaaGreatCoS
import Derived.Test.YtlabpgdimhbocaaGreatOnce
namespace Go.Proofs.YtlabpgdimhbocaaGreat
set_option linter.unusedVariables false
set_option linter.unusedSimpArgs false
open Go.ChangeShapes Go.WideShapes Go.ChangeAt Go.RowKit

theorem al3r (w : World) (o1 o2 o3 : Obj) (w4 : World) (h4 : ((w.alloc o1).alloc o2).alloc o3 = w4) : w4.heap[w.heap.size]? = some o1 ∧ w4.heap[w.heap.size + 1]? = some o2 ∧ w4.heap[w.heap.size + 2]? = some o3 ∧ Below w.heap.size w w4 := by
  have s1 : (w.alloc o1).heap.size = w.heap.size + 1 := by simp
  have g1 := heap_alloc_new w o1
  have b1 := below_alloc (Below.refl w.heap.size w) o1
  generalize w.alloc o1 = w1 at *
  have s2 : (w1.alloc o2).heap.size = w1.heap.size + 1 := by simp
  have g2 := heap_alloc_new w1 o2
  have b2 := below_alloc (Below.refl w1.heap.size w1) o2
  generalize w1.alloc o2 = w2 at *
  have g3 := heap_alloc_new w2 o3
  have b3 := below_alloc (Below.refl w2.heap.size w2) o3
  generalize w2.alloc o3 = w3 at *
  subst h4
  rw [s2, s1] at g3
  rw [s1] at g2
  exact ⟨(b3.block _ (by omega)).trans ((b2.block _ (by omega)).trans g1), (b3.block _ (by omega)).trans g2, g3, below_step (below_step b1 b2) b3⟩
/-- A call that ends, and one that has ended. -/
def midC (R : Co) (ee ver : Int) : Co := { R with aid := R.id, ack := R.ck, acs := R.cs, act := R.ct, acv := R.cv, ae := ee, av := ver, AL := [] }
def endC (R : Co) (ee ver : Int) (L : List It) : Co := { midC R ee ver with AL := L, dn := true }
def endA (ee : Int) (LI : List It) : List It := if ee = 0 then LI else []
theorem mid_set {w : World} {b : Nat} {R : Co} {m : Int} {vg va : Value} (ee ver : Int) (h : w.heap[b]? = some (.cells (coL R m vg va).toArray 68 (0, 0))) :
    ((((((((w.setCell ⟨b, 21, none⟩ (.int .u64 R.id)).setCell ⟨b, 22, none⟩ (.int .i64 R.ck)).setCell ⟨b, 23, none⟩ (.int .i64 R.cs)).setCell ⟨b, 24, none⟩ (.int .u64 R.ct)).setCell ⟨b, 25, none⟩ (.int .i64 R.cv)).setCell ⟨b, 26, none⟩ (.int .i64 ee)).setCell ⟨b, 27, none⟩ (.int .u64 ver)).setCell ⟨b, 28, none⟩ (.slice none 0 0)).heap[b]? = some (.cells (coL (midC R ee ver) m vg (.slice none 0 0)).toArray 68 (0, 0)) :=
  set_of_list (o := 28) (set_of_list (o := 27) (set_of_list (o := 26) (set_of_list (o := 25) (set_of_list (o := 24) (set_of_list (o := 23) (set_of_list (o := 22) (set_of_list (o := 21) h (.int .u64 R.id)) (.int .i64 R.ck)) (.int .i64 R.cs)) (.int .u64 R.ct)) (.int .i64 R.cv)) (.int .i64 ee)) (.int .u64 ver)) (.slice none 0 0)
set_option maxRecDepth 100000 in
set_option maxHeartbeats 3200000 in
theorem cend_clos {w : World} {b x : Nat} {X : Nat → Prop} {R : Co} {vg va : Value} {LI : List It} {m : Int} (ee ver : Int) (hb : w.heap[b]? = some (.cells (coL R m vg va).toArray 68 (0, 0))) (hx0 : w.heap[x]? = some (.cells #[.pointer (some ⟨b, 0, none⟩)] 26 (0, 0))) (hx1 : w.heap[x + 1]? = some (.cells #[.int .i64 ee] 27 (0, 0))) (hx2 : w.heap[x + 2]? = some (.cells #[.int .u64 ver] 22 (0, 0))) (hbx : b < x) (hg : CoG w b X vg R.G) (hI : ee = 0 → ∀ (W : World) (m : Int), W.heap[b]? = some (.cells (coL (midC R ee ver) m vg (.slice none 0 0)).toArray 68 (0, 0)) → CoG W b X vg R.G → Calls Tryz.prog 43 #[.pointer (some ⟨b, 0, none⟩)] W fun e w' => ∃ v, e = .returned v ∧ Og W.heap.size w' v LI ∧ Below W.heap.size W w') :
    Calls Tryz.prog 42 #[.pointer (some ⟨x, 0, none⟩), .pointer (some ⟨x + 1, 0, none⟩), .pointer (some ⟨x + 2, 0, none⟩)] w fun e w' => e = .returned (.tuple #[]) ∧ (∃ va', w'.heap[b]? = some (.cells (coL (endC R ee ver (endA ee LI)) m vg va').toArray 68 (0, 0)) ∧ Sl w' va' (endA ee LI) ∧ ∀ g, va'.ownBlock = some g → w.heap.size ≤ g ∧ g < w'.heap.size) ∧ Sets (fun g => g = b) w w' := by
  have l0 := (Array.getElem?_eq_some_iff.1 hx0).1
  have l1 := (Array.getElem?_eq_some_iff.1 hx1).1
  have l2 := (Array.getElem?_eq_some_iff.1 hx2).1
  have lb := (Array.getElem?_eq_some_iff.1 hb).1
  have HC : Hid (∀ W : World, Below w.heap.size w W → W.cell? ⟨x, 0, none⟩ = some (.pointer (some ⟨b, 0, none⟩)) ∧ W.cell? ⟨x + 1, 0, none⟩ = some (.int .i64 ee) ∧ W.cell? ⟨x + 2, 0, none⟩ = some (.int .u64 ver) ∧ W.cell? ⟨b, 2, none⟩ = some (.int .u64 R.id) ∧ W.cell? ⟨b, 3, none⟩ = some (.int .i64 R.ck) ∧ W.cell? ⟨b, 4, none⟩ = some (.int .i64 R.cs) ∧ W.cell? ⟨b, 5, none⟩ = some (.int .u64 R.ct) ∧ W.cell? ⟨b, 6, none⟩ = some (.int .i64 R.cv)) := hide (fun W hW => by
    have hk := (hW.block _ lb).trans hb
    exact ⟨(cell_of_row _ _ 0 _ _ _ ((hW.block _ l0).trans hx0)).trans rfl, (cell_of_row _ _ 0 _ _ _ ((hW.block _ l1).trans hx1)).trans rfl, (cell_of_row _ _ 0 _ _ _ ((hW.block _ l2).trans hx2)).trans rfl, (cell_of_list (o := 2) hk).trans rfl, (cell_of_list (o := 3) hk).trans rfl, (cell_of_list (o := 4) hk).trans rfl, (cell_of_list (o := 5) hk).trans rfl, (cell_of_list (o := 6) hk).trans rfl⟩)
  obtain ⟨ud, hud⟩ : ∃ ud, w.drew = ud := ⟨_, rfl⟩
  have HUD : Hid (Below w.heap.size w ud) := hide (by rw [← hud]; exact (Below.refl _ _).drew)
  have hbu : ud.heap[b]? = some (.cells (coL R m vg va).toArray 68 (0, 0)) := by rw [← hud]; exact hb
  have HCL : Hid (ud.cell? ⟨b, 21, none⟩ = some (.int .u64 R.aid) ∧ ud.cell? ⟨b, 22, none⟩ = some (.int .i64 R.ack) ∧ ud.cell? ⟨b, 23, none⟩ = some (.int .i64 R.acs) ∧ ud.cell? ⟨b, 24, none⟩ = some (.int .u64 R.act) ∧ ud.cell? ⟨b, 25, none⟩ = some (.int .i64 R.acv) ∧ ud.cell? ⟨b, 26, none⟩ = some (.int .i64 R.ae) ∧ ud.cell? ⟨b, 27, none⟩ = some (.int .u64 R.av) ∧ ud.cell? ⟨b, 28, none⟩ = some (va)) := hide
    ⟨(cell_of_list (o := 21) hbu).trans rfl, (cell_of_list (o := 22) hbu).trans rfl, (cell_of_list (o := 23) hbu).trans rfl, (cell_of_list (o := 24) hbu).trans rfl, (cell_of_list (o := 25) hbu).trans rfl, (cell_of_list (o := 26) hbu).trans rfl, (cell_of_list (o := 27) hbu).trans rfl, (cell_of_list (o := 28) hbu).trans rfl⟩
  have HFZ : Hid (∀ o, ud.frozen? ⟨b, o, none⟩ = false) := hide (fun o => by simp [World.frozen?, hbu])
  have HBU := hide hbu
  have HUW := hide hud
  have HXL : Hid (x < ud.heap.size) := hide (Nat.lt_of_lt_of_le l0 HUD.out.size)
  have HXL1 : Hid (x + 1 < ud.heap.size) := hide (Nat.lt_of_lt_of_le l1 HUD.out.size)
  have HG := hide (hg.sets (Sets.of (S := fun _ => False) HUD.out) (fun g _ _ h => h))
  have HIT := hide hI
  have HLB0 := hide lb
  clear hb hx0 hx1 hx2 l0 l1 l2 lb hbu hud hg hI
  go_enter Tryz.func42, Tryz.ntmps42
  go_upto_region 0 with fail
  refine j_startD [14] HUW.out (by kernel_rfl) ?_
  refine' j_take (i := 0) (v := _) [12, 13, 14] ?hi0 (by kernel_rfl) (by kernel_rfl) (by kernel_rfl) (by kernel_rfl) (by kernel_rfl) (Or.inl ⟨?hw0, ?hy0⟩) ?rest0
  case hi0 => (simp only [List.getElem?_toArray, List.getElem?_cons_succ, List.getElem?_cons_zero]; rfl)
  case hw0 => rfl
  case hy0 => (intro w' hw'; obtain ⟨j0, j1, j2, j3, j4, j5, j6, j7⟩ := HC.out _ (below_step HUD.out hw'); go_simp; try with_reducible rfl)
  try simp only [Act.put, List.setIfInBounds_toArray, List.set_cons_zero, List.set_cons_succ]
  refine' j_take (i := 1) (v := _) [2, 3, 4, 11, 12, 13, 14] ?hi1 (by kernel_rfl) (by kernel_rfl) (by kernel_rfl) (by kernel_rfl) (by kernel_rfl) (Or.inl ⟨?hw1, ?hy1⟩) ?rest1
  case hi1 => (simp only [List.getElem?_toArray, List.getElem?_cons_succ, List.getElem?_cons_zero]; rfl)
  case hw1 => rfl
  case hy1 => (intro w' hw'; obtain ⟨j0, j1, j2, j3, j4, j5, j6, j7⟩ := HC.out _ (below_step HUD.out hw'); go_simp; try with_reducible rfl)
  try simp only [Act.put, List.setIfInBounds_toArray, List.set_cons_zero, List.set_cons_succ]
  refine' j_take (i := 2) (v := _) [3, 4, 11, 12, 13, 14] ?hi2 (by kernel_rfl) (by kernel_rfl) (by kernel_rfl) (by kernel_rfl) (by kernel_rfl) (Or.inl ⟨?hw2, ?hy2⟩) ?rest2
  case hi2 => (simp only [List.getElem?_toArray, List.getElem?_cons_succ, List.getElem?_cons_zero]; rfl)
  case hw2 => rfl
  case hy2 => (intro w' hw'; go_simp; try with_reducible rfl)
  try simp only [Act.put, List.setIfInBounds_toArray, List.set_cons_zero, List.set_cons_succ]
  refine' j_take (i := 3) (v := _) [4, 11, 12, 13, 14] ?hi3 (by kernel_rfl) (by kernel_rfl) (by kernel_rfl) (by kernel_rfl) (by kernel_rfl) (Or.inl ⟨?hw3, ?hy3⟩) ?rest3
  case hi3 => (simp only [List.getElem?_toArray, List.getElem?_cons_succ, List.getElem?_cons_zero]; rfl)
  case hw3 => rfl
  case hy3 => (intro w' hw'; go_simp; try with_reducible rfl)
  try simp only [Act.put, List.setIfInBounds_toArray, List.set_cons_zero, List.set_cons_succ]
  refine' j_take (i := 4) (v := _) [11, 12, 13, 14] ?hi4 (by kernel_rfl) (by kernel_rfl) (by kernel_rfl) (by kernel_rfl) (by kernel_rfl) (Or.inl ⟨?hw4, ?hy4⟩) ?rest4
  case hi4 => (simp only [List.getElem?_toArray, List.getElem?_cons_succ, List.getElem?_cons_zero]; rfl)
  case hw4 => rfl
  case hy4 => (intro w' hw'; obtain ⟨j0, j1, j2, j3, j4, j5, j6, j7⟩ := HC.out _ (below_step HUD.out hw'); go_simp; try with_reducible rfl)
  try simp only [Act.put, List.setIfInBounds_toArray, List.set_cons_zero, List.set_cons_succ]
  refine' j_take (i := 5) (v := _) [6, 7, 8, 11, 12, 13, 14] ?hi5 (by kernel_rfl) (by kernel_rfl) (by kernel_rfl) (by kernel_rfl) (by kernel_rfl) (Or.inl ⟨?hw5, ?hy5⟩) ?rest5
  case hi5 => (simp only [List.getElem?_toArray, List.getElem?_cons_succ, List.getElem?_cons_zero]; rfl)
  case hw5 => rfl
  case hy5 => (intro w' hw'; obtain ⟨j0, j1, j2, j3, j4, j5, j6, j7⟩ := HC.out _ (below_step HUD.out hw'); go_simp; try with_reducible rfl)
  try simp only [Act.put, List.setIfInBounds_toArray, List.set_cons_zero, List.set_cons_succ]
  refine' j_take (i := 6) (v := _) [7, 8, 11, 12, 13, 14] ?hi6 (by kernel_rfl) (by kernel_rfl) (by kernel_rfl) (by kernel_rfl) (by kernel_rfl) (Or.inl ⟨?hw6, ?hy6⟩) ?rest6
  case hi6 => (simp only [List.getElem?_toArray, List.getElem?_cons_succ, List.getElem?_cons_zero]; rfl)
  case hw6 => rfl
  case hy6 => (intro w' hw'; go_simp; try with_reducible rfl)
  try simp only [Act.put, List.setIfInBounds_toArray, List.set_cons_zero, List.set_cons_succ]
  refine' j_take (i := 7) (v := _) [8, 11, 12, 13, 14] ?hi7 (by kernel_rfl) (by kernel_rfl) (by kernel_rfl) (by kernel_rfl) (by kernel_rfl) (Or.inl ⟨?hw7, ?hy7⟩) ?rest7
  case hi7 => (simp only [List.getElem?_toArray, List.getElem?_cons_succ, List.getElem?_cons_zero]; rfl)
  case hw7 => rfl
  case hy7 => (intro w' hw'; go_simp; try with_reducible rfl)
  try simp only [Act.put, List.setIfInBounds_toArray, List.set_cons_zero, List.set_cons_succ]
  refine' j_take (i := 8) (v := _) [11, 12, 13, 14] ?hi8 (by kernel_rfl) (by kernel_rfl) (by kernel_rfl) (by kernel_rfl) (by kernel_rfl) (Or.inl ⟨?hw8, ?hy8⟩) ?rest8
  case hi8 => (simp only [List.getElem?_toArray, List.getElem?_cons_succ, List.getElem?_cons_zero]; rfl)
  case hw8 => rfl
  case hy8 => (intro w' hw'; obtain ⟨j0, j1, j2, j3, j4, j5, j6, j7⟩ := HC.out _ (below_step HUD.out hw'); go_simp; try with_reducible rfl)
  try simp only [Act.put, List.setIfInBounds_toArray, List.set_cons_zero, List.set_cons_succ]
  refine' j_take (i := 9) (v := _) [11, 12, 13, 14] ?hi9 (by kernel_rfl) (by kernel_rfl) (by kernel_rfl) (by kernel_rfl) (by kernel_rfl) (Or.inl ⟨?hw9, ?hy9⟩) ?rest9
  case hi9 => (simp only [List.getElem?_toArray, List.getElem?_cons_succ, List.getElem?_cons_zero]; rfl)
  case hw9 => rfl
  case hy9 => (intro w' hw'; obtain ⟨j0, j1, j2, j3, j4, j5, j6, j7⟩ := HC.out _ (below_step HUD.out hw'); go_simp; try with_reducible rfl)
  try simp only [Act.put, List.setIfInBounds_toArray, List.set_cons_zero, List.set_cons_succ]
  refine' j_take (i := 10) (v := _) [11, 12, 13, 14] ?hi10 (by kernel_rfl) (by kernel_rfl) (by kernel_rfl) (by kernel_rfl) (by kernel_rfl) (Or.inl ⟨?hw10, ?hy10⟩) ?rest10
  case hi10 => (simp only [List.getElem?_toArray, List.getElem?_cons_succ, List.getElem?_cons_zero]; rfl)
  case hw10 => rfl
  case hy10 => (intro w' hw'; obtain ⟨j0, j1, j2, j3, j4, j5, j6, j7⟩ := HC.out _ (below_step HUD.out hw'); go_simp; try with_reducible rfl)
  try simp only [Act.put, List.setIfInBounds_toArray, List.set_cons_zero, List.set_cons_succ]
  refine' j_take (i := 11) (v := _) [12, 13, 14] ?hi11 (by kernel_rfl) (by kernel_rfl) (by kernel_rfl) (by kernel_rfl) (by kernel_rfl) (Or.inl ⟨?hw11, ?hy11⟩) ?rest11
  case hi11 => (simp only [List.getElem?_toArray, List.getElem?_cons_succ, List.getElem?_cons_zero]; rfl)
  case hw11 => rfl
  case hy11 => (intro w' hw'; go_simp; try with_reducible rfl)
  try simp only [Act.put, List.setIfInBounds_toArray, List.set_cons_zero, List.set_cons_succ]
  refine' j_take (i := 12) (v := _) [13, 14] ?hi12 (by kernel_rfl) (by kernel_rfl) (by kernel_rfl) (by kernel_rfl) (by kernel_rfl) (Or.inl ⟨?hw12, ?hy12⟩) ?rest12
  case hi12 => (simp only [List.getElem?_toArray, List.getElem?_cons_succ, List.getElem?_cons_zero]; rfl)
  case hw12 => rfl
  case hy12 => (intro w' hw'; go_simp; try with_reducible rfl)
  try simp only [Act.put, List.setIfInBounds_toArray, List.set_cons_zero, List.set_cons_succ]
  refine' j_take (i := 13) (v := _) [14] ?hi13 (by kernel_rfl) (by kernel_rfl) (by kernel_rfl) (by kernel_rfl) (by kernel_rfl) (Or.inl ⟨?hw13, ?hy13⟩) ?rest13
  case hi13 => (simp only [List.getElem?_toArray, List.getElem?_cons_succ, List.getElem?_cons_zero]; rfl)
  case hw13 => rfl
  case hy13 => (intro w' hw'; go_simp; try with_reducible rfl)
  try simp only [Act.put, List.setIfInBounds_toArray, List.set_cons_zero, List.set_cons_succ]
  refine' wpAnyJ_last (i := 14) (o := _) (by kernel_rfl) ?ho14 (by kernel_rfl) (fun K hK => ?step14)
  case ho14 => (simp only [List.getElem?_toArray, List.getElem?_cons_succ, List.getElem?_cons_zero]; rfl)
  obtain ⟨s0, s1, s2, s3, s4, s5, s6, s7⟩ := HCL.out
  have sf := HFZ.out
  go_simp
  refine hK.out _ _ ?_
  clear hK K s0 s1 s2 s3 s4 s5 s6 s7 sf
  try simp only [Act.put, List.setIfInBounds_toArray, List.set_cons_zero, List.set_cons_succ]
  refine wpAnyJ_done (by kernel_rfl) ?_ _
  refine NoPanic.normal ?_
  have hb8 := mid_set ee ver HBU.out
  have hs8 : Sets (fun g => g = b) ud ((((((((ud.setCell ⟨b, 21, none⟩ (.int .u64 R.id)).setCell ⟨b, 22, none⟩ (.int .i64 R.ck)).setCell ⟨b, 23, none⟩ (.int .i64 R.cs)).setCell ⟨b, 24, none⟩ (.int .u64 R.ct)).setCell ⟨b, 25, none⟩ (.int .i64 R.cv)).setCell ⟨b, 26, none⟩ (.int .i64 ee)).setCell ⟨b, 27, none⟩ (.int .u64 ver)).setCell ⟨b, 28, none⟩ (.slice none 0 0)) := ((((((((Sets.refl (S := fun g => g = b) ud).set (g := b) (fun _ => rfl) 21 (.int .u64 R.id)).set (g := b) (fun _ => rfl) 22 (.int .i64 R.ck)).set (g := b) (fun _ => rfl) 23 (.int .i64 R.cs)).set (g := b) (fun _ => rfl) 24 (.int .u64 R.ct)).set (g := b) (fun _ => rfl) 25 (.int .i64 R.cv)).set (g := b) (fun _ => rfl) 26 (.int .i64 ee)).set (g := b) (fun _ => rfl) 27 (.int .u64 ver)).set (g := b) (fun _ => rfl) 28 (.slice none 0 0)
  obtain ⟨u8, hu8⟩ : ∃ u8, ((((((((ud.setCell ⟨b, 21, none⟩ (.int .u64 R.id)).setCell ⟨b, 22, none⟩ (.int .i64 R.ck)).setCell ⟨b, 23, none⟩ (.int .i64 R.cs)).setCell ⟨b, 24, none⟩ (.int .u64 R.ct)).setCell ⟨b, 25, none⟩ (.int .i64 R.cv)).setCell ⟨b, 26, none⟩ (.int .i64 ee)).setCell ⟨b, 27, none⟩ (.int .u64 ver)).setCell ⟨b, 28, none⟩ (.slice none 0 0)) = u8 := ⟨_, rfl⟩
  rw [hu8] at hb8 hs8
  rw [hu8]
  have HB8 := hide hb8
  have HS8 := hide hs8
  have HG8 := hide (HG.out.sets hs8 (fun g _ hn => hn))
  have kx : u8.cell? ⟨x, 0, none⟩ = some (.pointer (some ⟨b, 0, none⟩)) := hs8.cell HXL.out (by omega) (HC.out ud HUD.out).1
  have kx1 : u8.cell? ⟨x + 1, 0, none⟩ = some (.int .i64 ee) := hs8.cell HXL1.out (by omega) (HC.out ud HUD.out).2.1
  have HKX := hide kx
  have HX8 : Hid (x < u8.heap.size) := hide (Nat.lt_of_lt_of_le HXL.out hs8.size)
  clear hb8 hs8 hu8 HC HCL HFZ HG
  by_cases he : ee = 0
  · subst he
    have HIT0 := hide (HIT.out rfl)
    have HEA : Hid (endA 0 LI = LI) := hide (by unfold endA; rw [if_pos rfl])
    clear HIT
    go_upto_region 2 with fail
    clear kx kx1
    obtain ⟨vd, hvd⟩ : ∃ vd, u8.drew = vd := ⟨_, rfl⟩
    have HVD : Hid (Below u8.heap.size u8 vd) := hide (by rw [← hvd]; exact (Below.refl _ _).drew)
    have HLB8 : b < u8.heap.size := (Array.getElem?_eq_some_iff.1 HB8.out).1
    have HVB := hide ((HVD.out.block b HLB8).trans HB8.out)
    have HVG := hide (HG8.out.sets (Sets.of (S := fun _ => False) HVD.out) (fun g _ _ h => h))
    have HLB : Hid (b < vd.heap.size) := hide (Nat.lt_of_lt_of_le HLB8 HVD.out.size)
    have HCX : Hid (∀ W : World, Below u8.heap.size u8 W → W.cell? ⟨x, 0, none⟩ = some (.pointer (some ⟨b, 0, none⟩))) := hide (fun W hW => keep_cell hW HKX.out HX8.out)
    have HIT := hide (fun (W : World) => HIT0.out W m)
    clear HIT0 HLB8
    refine j_startD [6] hvd (by kernel_rfl) ?_
    clear hvd
    refine' j_take (i := 0) (v := _) [3, 4, 5, 6] ?hi0b (by kernel_rfl) (by kernel_rfl) (by kernel_rfl) (by kernel_rfl) (by kernel_rfl) (Or.inl ⟨?hw0b, ?hy0b⟩) ?rest0b
    case hi0b => (simp only [List.getElem?_toArray, List.getElem?_cons_succ, List.getElem?_cons_zero]; rfl)
    case hw0b => rfl
    case hy0b => (intro w' hw'; have jx := HCX.out _ (below_step HVD.out hw'); go_simp; try with_reducible rfl)
    try simp only [Act.put, List.setIfInBounds_toArray, List.set_cons_zero, List.set_cons_succ]
    refine' j_take (i := 1) (v := _) [2, 3, 4, 5, 6] ?hi1b (by kernel_rfl) (by kernel_rfl) (by kernel_rfl) (by kernel_rfl) (by kernel_rfl) (Or.inl ⟨?hw1b, ?hy1b⟩) ?rest1b
    case hi1b => (simp only [List.getElem?_toArray, List.getElem?_cons_succ, List.getElem?_cons_zero]; rfl)
    case hw1b => rfl
    case hy1b => (intro w' hw'; have jx := HCX.out _ (below_step HVD.out hw'); go_simp; try with_reducible rfl)
    try simp only [Act.put, List.setIfInBounds_toArray, List.set_cons_zero, List.set_cons_succ]
    refine' wpAnyJ_step (i := 2) (o := _) (by kernel_rfl) ?ho2b (fun K hK => ?step2b)
    case ho2b => (simp only [List.getElem?_toArray, List.getElem?_cons_succ, List.getElem?_cons_zero]; rfl)
    go_simp
    refine (Calls.mono (HIT.out _ HVB.out HVG.out) ?_); rintro e u1 ⟨vi, rfl, hoi, gg⟩
    obtain ⟨Ai, ci, rfl, _, _, _⟩ := hoi.sl
    have HOI := hide hoi
    have HGG := hide gg
    have kb := (gg.block b HLB.out).trans HVB.out
    have k28 := (cell_of_list (o := 28) kb).trans rfl
    have z28 : u1.frozen? ⟨b, 28, none⟩ = false := (by simp [World.frozen?, kb])
    have KB := hide kb
    clear hoi kb
    refine hK.out _ _ gg (j_switch gg ?_)
    clear hK K gg
    try simp only [Act.put, List.setIfInBounds_toArray, List.set_cons_zero, List.set_cons_succ]
    refine' j_take (i := 3) (v := _) [4, 5, 6] ?hi3b (by kernel_rfl) (by kernel_rfl) (by kernel_rfl) (by kernel_rfl) (by kernel_rfl) (Or.inl ⟨?hw3b, ?hy3b⟩) ?rest3b
    case hi3b => (simp only [List.getElem?_toArray, List.getElem?_cons_succ, List.getElem?_cons_zero]; rfl)
    case hw3b => rfl
    case hy3b => (intro w' hw'; go_simp; try with_reducible rfl)
    try simp only [Act.put, List.setIfInBounds_toArray, List.set_cons_zero, List.set_cons_succ]
    refine' j_take (i := 4) (v := _) [5, 6] ?hi4b (by kernel_rfl) (by kernel_rfl) (by kernel_rfl) (by kernel_rfl) (by kernel_rfl) (Or.inl ⟨?hw4b, ?hy4b⟩) ?rest4b
    case hi4b => (simp only [List.getElem?_toArray, List.getElem?_cons_succ, List.getElem?_cons_zero]; rfl)
    case hw4b => rfl
    case hy4b => (intro w' hw'; go_simp; try with_reducible rfl)
    try simp only [Act.put, List.setIfInBounds_toArray, List.set_cons_zero, List.set_cons_succ]
    refine' j_take (i := 5) (v := _) [6] ?hi5b (by kernel_rfl) (by kernel_rfl) (by kernel_rfl) (by kernel_rfl) (by kernel_rfl) (Or.inl ⟨?hw5b, ?hy5b⟩) ?rest5b
    case hi5b => (simp only [List.getElem?_toArray, List.getElem?_cons_succ, List.getElem?_cons_zero]; rfl)
    case hw5b => rfl
    case hy5b => (intro w' hw'; go_simp; try with_reducible rfl)
    try simp only [Act.put, List.setIfInBounds_toArray, List.set_cons_zero, List.set_cons_succ]
    refine' wpAnyJ_last (i := 6) (o := _) (by kernel_rfl) ?ho6b (by kernel_rfl) (fun K hK => ?step6b)
    case ho6b => (simp only [List.getElem?_toArray, List.getElem?_cons_succ, List.getElem?_cons_zero]; rfl)
    have k28 : u1.cell? ⟨b, 28, none⟩ = some (.slice none 0 0) := k28
    go_simp
    refine hK.out _ _ ?_
    clear hK K k28 z28
    try simp only [Act.put, List.setIfInBounds_toArray, List.set_cons_zero, List.set_cons_succ]
    refine wpAnyJ_done (by kernel_rfl) ?_ _
    refine NoPanic.normal ?_
    have hb9 := set_of_list (o := 28) KB.out (.slice Ai LI.length ci)
    have hs9 : Sets (fun g => g = b) u1 (u1.setCell ⟨b, 28, none⟩ (.slice Ai LI.length ci)) := (Sets.refl (S := fun g => g = b) u1).set (g := b) (fun _ => rfl) 28 _
    have hu1 := ((HS8.out.trans (Sets.of (S := fun g => g = b) HVD.out) (fun _ _ h => h)).trans (Sets.of (S := fun g => g = b) HGG.out) (fun _ _ h => h))
    have hsz : w.heap.size ≤ vd.heap.size := Nat.le_trans (Nat.le_trans HUD.out.size HS8.out.size) HVD.out.size
    have HO9 : Hid (Sl (u1.setCell ⟨b, 28, none⟩ (.slice Ai LI.length ci)) (.slice Ai LI.length ci) LI ∧ ∀ g, (Value.slice Ai LI.length ci).ownBlock = some g → w.heap.size ≤ g ∧ g < (u1.setCell ⟨b, 28, none⟩ (.slice Ai LI.length ci)).heap.size) := hide
      ⟨sl_sets_ HOI.out.sl hs9 (fun g hg e => by have := (HOI.out.lt g hg).1; have := HLB.out; omega), fun g hg => ⟨by have := (HOI.out.lt g hg).1; omega, Nat.lt_of_lt_of_le (HOI.out.lt g hg).2 hs9.size⟩⟩
    have HKX9 : Hid ((u1.setCell ⟨b, 28, none⟩ (.slice Ai LI.length ci)).cell? ⟨x, 0, none⟩ = some (.pointer (some ⟨b, 0, none⟩))) := hide (hs9.cell (Nat.lt_of_lt_of_le (Nat.lt_of_lt_of_le HX8.out HVD.out.size) HGG.out.size) (by omega) (HCX.out u1 (below_step HVD.out HGG.out)))
    have HB9 := hide hb9
    have HS9 := hide ((Sets.of (S := fun g => g = b) HUD.out).trans (hu1.trans hs9 (fun _ _ h => h)) (fun _ _ h => h))
    obtain ⟨u9, hu9⟩ : ∃ u9, u1.setCell ⟨b, 28, none⟩ (.slice Ai LI.length ci) = u9 := ⟨_, rfl⟩
    rw [hu9] at HB9 HS9 HO9 HKX9
    rw [hu9]
    clear hb9 hs9 hu1 hsz hu9 HCX HIT
    have k29 : u9.cell? ⟨b, 29, none⟩ = some (.bool R.dn) := (cell_of_list (o := 29) HB9.out).trans rfl
    have z29 : u9.frozen? ⟨b, 29, none⟩ = false := by simp [World.frozen?, HB9.out]
    have kx := HKX9.out
    have HB10 := hide (set_of_list (o := 29) HB9.out (.bool true))
    have hs10 : Sets (fun g => g = b) u9 (u9.setCell ⟨b, 29, none⟩ (.bool true)) := (Sets.refl (S := fun g => g = b) u9).set (g := b) (fun _ => rfl) 29 _
    have HO10 : Hid (Sl (u9.setCell ⟨b, 29, none⟩ (.bool true)) (.slice Ai LI.length ci) LI) := hide (sl_sets_ HO9.out.1 hs10 (fun g hg e => by have := (HO9.out.2 g hg).1; have := HLB0.out; omega))
    have HF10 := hide (fun g hg => And.intro (HO9.out.2 g hg).1 (Nat.lt_of_lt_of_le (HO9.out.2 g hg).2 hs10.size))
    have HS10 := hide (HS9.out.trans hs10 (fun _ _ h => h))
    clear hs10
    go_wp2_with fail
    go_end0
    rw [HEA.out]
    exact ⟨rfl, ⟨_, HB10.out, HO10.out, HF10.out⟩, HS10.out⟩
  · have heI : (ee == 0) = false := beq_eq_false_iff_ne.2 he
    have HEA : Hid (endA ee LI = []) := hide (by unfold endA; rw [if_neg he])
    have k29 : u8.cell? ⟨b, 29, none⟩ = some (.bool R.dn) := (cell_of_list (o := 29) HB8.out).trans rfl
    have z29 : u8.frozen? ⟨b, 29, none⟩ = false := by simp [World.frozen?, HB8.out]
    have HB10 := hide (set_of_list (o := 29) HB8.out (.bool true))
    have hs10 : Sets (fun g => g = b) u8 (u8.setCell ⟨b, 29, none⟩ (.bool true)) := (Sets.refl (S := fun g => g = b) u8).set (g := b) (fun _ => rfl) 29 _
    have HS10 := hide ((Sets.of (S := fun g => g = b) HUD.out).trans (HS8.out.trans hs10 (fun _ _ h => h)) (fun _ _ h => h))
    clear hs10 he HIT
    go_wp2_with fail
    go_end0
    rw [HEA.out]
    exact ⟨rfl, ⟨.slice none 0 0, HB10.out, Sl.nil_ _, fun g hg => by cases hg⟩, HS10.out⟩
set_option maxRecDepth 100000 in
set_option maxHeartbeats 3200000 in
theorem cslow {w : World} {b x : Nat} {X : Nat → Prop} {R : Co} {vg va : Value} {LI : List It} (ee ver : Int) (hb : w.heap[b]? = some (.cells (coL R 0 vg va).toArray 68 (0, 0))) (hd : R.d = 0) (hx0 : w.heap[x]? = some (.cells #[.pointer (some ⟨b, 0, none⟩)] 26 (0, 0))) (hx1 : w.heap[x + 1]? = some (.cells #[.int .i64 ee] 27 (0, 0))) (hx2 : w.heap[x + 2]? = some (.cells #[.int .u64 ver] 22 (0, 0))) (hbx : b < x) (hg : CoG w b X vg R.G) (hI : ee = 0 → ∀ (W : World) (m : Int), W.heap[b]? = some (.cells (coL (midC R ee ver) m vg (.slice none 0 0)).toArray 68 (0, 0)) → CoG W b X vg R.G → Calls Tryz.prog 43 #[.pointer (some ⟨b, 0, none⟩)] W fun e w' => ∃ v, e = .returned v ∧ Og W.heap.size w' v LI ∧ Below W.heap.size W w') :
    Calls Tryz.prog 52 #[.pointer (some ⟨b, 18, none⟩), .func (.func 42) #[] #[.pointer (some ⟨x, 0, none⟩), .pointer (some ⟨x + 1, 0, none⟩), .pointer (some ⟨x + 2, 0, none⟩)]] w fun e w' => e = .returned (.tuple #[]) ∧ (∃ va', w'.heap[b]? = some (.cells (coL ({ endC R ee ver (endA ee LI) with d := 1 }) 0 vg va').toArray 68 (0, 0)) ∧ Sl w' va' (endA ee LI) ∧ ∀ g, va'.ownBlock = some g → w.heap.size ≤ g ∧ g < w'.heap.size) ∧ Sets (fun g => g = b) w w' := by
  have l0 := (Array.getElem?_eq_some_iff.1 hx0).1
  have l1 := (Array.getElem?_eq_some_iff.1 hx1).1
  have l2 := (Array.getElem?_eq_some_iff.1 hx2).1
  have h0 : w.cell? ⟨b, 18, none⟩ = some (.int .u32 R.d) := (cell_of_list (o := 18) hb).trans rfl
  have h1 : w.cell? ⟨b, 19, none⟩ = some (.int .i32 0) := (cell_of_list (o := 19) hb).trans rfl
  have hz : w.frozen? ⟨b, 19, none⟩ = false := by simp [World.frozen?, hb]
  obtain ⟨w1, hw1⟩ : ∃ w1, w.setCell ⟨b, 19, none⟩ (.int .i32 1) = w1 := ⟨_, rfl⟩
  have hbx1 : w1.heap[b]? = some (.cells (coL R 1 vg va).toArray 68 (0, 0)) := by rw [← hw1]; exact set_of_list hb _
  have hs1 : Sets (fun g => g = b) w w1 := by rw [← hw1]; exact (Sets.refl (S := fun g => g = b) w).set (g := b) (fun _ => rfl) 19 _
  have hsz1 : w1.heap.size = w.heap.size := by rw [← hw1]; simp [World.setCell]
  have HCLO := hide (cend_clos ee ver hbx1 ((hs1.block _ l0 (by omega)).trans hx0) ((hs1.block _ l1 (by omega)).trans hx1) ((hs1.block _ l2 (by omega)).trans hx2) hbx (hg.sets hs1 (fun g _ hn => hn)) hI)
  have g0 : w1.cell? ⟨b, 18, none⟩ = some (.int .u32 0) := by rw [← hd]; exact (cell_of_list (o := 18) hbx1).trans rfl
  have hl := run_call_load (P := Tryz.prog) Tryz.func61 (by kernel_rfl) (by kernel_rfl) (by kernel_rfl) .u32 (by kernel_rfl) (w := w1) (a := ⟨b, 18, none⟩) (x := 0) g0
  have hnot : ∀ (x : Bool) (w : World), (Op.unary .not (.bool x)).run Tryz.prog w = .ok (.bool (!x)) w := fun _ _ => rfl
  have HS1 := hide hs1
  have HW1 := hide hw1
  have HD := hide hd
  have HSZ1 := hide hsz1
  have HLB : Hid (b < w.heap.size) := hide (Array.getElem?_eq_some_iff.1 hb).1
  clear hb hbx1 hs1 hx0 hx1 hx2 l0 l1 l2 h0 hd hg hI hsz1
  go_enter_defers Tryz.func52, Tryz.ntmps52
  go_wp2_with (first | (go_at_call 51; go_in) | (go_at_call 62; refine (lock_free ⟨b, 19, none⟩ _ h1 hz).mono ?_; rintro e w' ⟨rfl, rfl⟩; rw [HW1.out]) | (go_at_call 42; refine (Calls.mono HCLO.out ?_); rintro e w3 ⟨rfl, ⟨va3, hbx3, hsl3, hfa3⟩, hS3⟩; have HB3 := hide hbx3; have HS3 := hide hS3; have HSL := hide hsl3; have HFA := hide hfa3; clear hbx3 hS3 hsl3 hfa3))
  have k0 : w3.cell? ⟨b, 18, none⟩ = some (.int .u32 R.d) := (cell_of_list (o := 18) HB3.out).trans rfl
  have hz3 : ∀ o, w3.frozen? ⟨b, o, none⟩ = false := fun o => by simp [World.frozen?, HB3.out]
  have hb4 : (w3.drew.setCell ⟨b, 18, none⟩ (.int .u32 1)).heap[b]? = some (.cells (coL { endC R ee ver (endA ee LI) with d := 1 } 1 vg va3).toArray 68 (0, 0)) := set_of_list (w := w3.drew) HB3.out _
  have m1 : (w3.drew.setCell ⟨b, 18, none⟩ (.int .u32 1)).cell? ⟨b, 19, none⟩ = some (.int .i32 1) := (cell_of_list (o := 19) hb4).trans rfl
  unfold bodyPostD
  refine leaves_cons (f := 64) (args := #[.pointer (some ⟨b, 18, none⟩), .bool true]) (by simp) (by simp [go_sem]) ?_
  refine (store_deferred ⟨b, 18, none⟩ (.int .u32 R.d) .returning _ k0 (hz3 18)).mono ?_
  rintro e u' w'' ⟨rfl, rfl, rfl⟩
  refine leaves_cons (f := 63) (args := #[.pointer (some ⟨b, 19, none⟩)]) (by simp [settle]) (by simp [go_sem]) ?_
  refine (unlock_deferred ⟨b, 19, none⟩ _ _ m1 (by simp [World.frozen?, hb4])).mono ?_
  rintro e u' w'' ⟨rfl, rfl, rfl⟩
  have hb5 : ((w3.drew.setCell ⟨b, 18, none⟩ (.int .u32 1)).setCell ⟨b, 19, none⟩ (.int .i32 0)).heap[b]? = some (.cells (coL { endC R ee ver (endA ee LI) with d := 1 } 0 vg va3).toArray 68 (0, 0)) := set_of_list hb4 _
  have hs5 : Sets (fun g => g = b) w3 ((w3.drew.setCell ⟨b, 18, none⟩ (.int .u32 1)).setCell ⟨b, 19, none⟩ (.int .i32 0)) := ((Sets.refl (S := fun g => g = b) w3).drew.set (g := b) (fun _ => rfl) 18 _).set (g := b) (fun _ => rfl) 19 _
  have hS5 := (HS1.out.trans HS3.out (fun _ _ h => h)).trans hs5 (fun _ _ h => h)
  have hfa : ∀ g, va3.ownBlock = some g → w.heap.size ≤ g ∧ g < ((w3.drew.setCell ⟨b, 18, none⟩ (.int .u32 1)).setCell ⟨b, 19, none⟩ (.int .i32 0)).heap.size := fun g hg => by have := HFA.out g hg; rw [HSZ1.out] at this; exact ⟨this.1, Nat.lt_of_lt_of_le this.2 hs5.size⟩
  have hsl := sl_sets_ HSL.out hs5 (fun g hg e => by have := (hfa g hg).1; have := HLB.out; omega)
  simp [Leaves, settle, results, Tryz.results52]
  refine ⟨⟨va3, hb5, hsl, fun g hg => ?_⟩, hS5⟩
  have h7 := hfa g hg
  simpa using h7
set_option maxRecDepth 100000 in
set_option maxHeartbeats 1600000 in
theorem cdo_first {w : World} {b x : Nat} {X : Nat → Prop} {R : Co} {vg va : Value} {LI : List It} (ee ver : Int) (hb : w.heap[b]? = some (.cells (coL R 0 vg va).toArray 68 (0, 0))) (hd : R.d = 0) (hx0 : w.heap[x]? = some (.cells #[.pointer (some ⟨b, 0, none⟩)] 26 (0, 0))) (hx1 : w.heap[x + 1]? = some (.cells #[.int .i64 ee] 27 (0, 0))) (hx2 : w.heap[x + 2]? = some (.cells #[.int .u64 ver] 22 (0, 0))) (hbx : b < x) (hg : CoG w b X vg R.G) (hI : ee = 0 → ∀ (W : World) (m : Int), W.heap[b]? = some (.cells (coL (midC R ee ver) m vg (.slice none 0 0)).toArray 68 (0, 0)) → CoG W b X vg R.G → Calls Tryz.prog 43 #[.pointer (some ⟨b, 0, none⟩)] W fun e w' => ∃ v, e = .returned v ∧ Og W.heap.size w' v LI ∧ Below W.heap.size W w') :
    Calls Tryz.prog 41 #[.pointer (some ⟨b, 18, none⟩), .func (.func 42) #[] #[.pointer (some ⟨x, 0, none⟩), .pointer (some ⟨x + 1, 0, none⟩), .pointer (some ⟨x + 2, 0, none⟩)]] w fun e w' => e = .returned (.tuple #[]) ∧ (∃ va', w'.heap[b]? = some (.cells (coL ({ endC R ee ver (endA ee LI) with d := 1 }) 0 vg va').toArray 68 (0, 0)) ∧ Sl w' va' (endA ee LI) ∧ ∀ g, va'.ownBlock = some g → w.heap.size ≤ g ∧ g < w'.heap.size) ∧ Sets (fun g => g = b) w w' := by
  have h0 : w.cell? ⟨b, 18, none⟩ = some (.int .u32 0) := by rw [← hd]; exact (cell_of_list (o := 18) hb).trans rfl
  have hl := run_call_load (P := Tryz.prog) Tryz.func61 (by kernel_rfl) (by kernel_rfl) (by kernel_rfl) .u32 (by kernel_rfl) h0
  have hnot : ∀ (x : Bool) (w : World), (Op.unary .not (.bool x)).run Tryz.prog w = .ok (.bool (!x)) w := fun _ _ => rfl
  have HSL := hide (cslow ee ver hb hd hx0 hx1 hx2 hbx hg hI)
  clear hb hx0 hx1 hx2 hd hg hI
  go_enter Tryz.func41, Tryz.ntmps41
  go_wp2_with (first | (go_at_call 52; refine (Calls.mono HSL.out ?_); rintro e w' ⟨rfl, h1, h2⟩; have H1 := hide h1; have H2 := hide h2; clear h1 h2) | (go_at_call 51; go_in))
  go_end0
  exact ⟨rfl, H1.out, H2.out⟩
/-- A call that was ended. -/
def end1C (R : Co) (ee ver : Int) (LI : List It) : Co := { endC R ee ver (endA ee LI) with d := 1 }
set_option maxRecDepth 100000 in
set_option maxHeartbeats 1600000 in
theorem cend_any {w0 w : World} {b : Nat} {X : Nat → Prop} {R : Co} {LI : List It} (h : CoO w0 w b X R) (hd : R.d = 0) (ee ver : Int) (hI : ee = 0 → ∀ (W : World) (m : Int) (X : Nat → Prop) (vg : Value), W.heap[b]? = some (.cells (coL (midC R ee ver) m vg (.slice none 0 0)).toArray 68 (0, 0)) → CoG W b X vg R.G → Calls Tryz.prog 43 #[.pointer (some ⟨b, 0, none⟩)] W fun e w' => ∃ v, e = .returned v ∧ Og W.heap.size w' v LI ∧ Below W.heap.size W w') :
    Calls Tryz.prog 29 #[.pointer (some ⟨b, 0, none⟩), .int .i64 ee, .int .u64 ver] w fun e w' => e = .returned (.tuple #[]) ∧ CoO w0 w' b (Xn X w w') (end1C R ee ver LI) ∧ Sets (fun g => g = b) w w' := by
  obtain ⟨w4, hw4⟩ : ∃ w4, (((w.alloc (.cells #[.pointer (some ⟨b, 0, none⟩)] 26)).alloc (.cells #[.int .i64 ee] 27)).alloc (.cells #[.int .u64 ver] 22)) = w4 := ⟨_, rfl⟩
  obtain ⟨q0, q1, q2, hb4⟩ := al3r w _ _ _ w4 hw4
  obtain ⟨x, hx⟩ : ∃ x, w.heap.size = x := ⟨_, rfl⟩
  rw [hx] at q0 q1 q2
  have hbl := h.lt
  have h4 := h.below hb4
  obtain ⟨vg, va, hb, hg, ha⟩ := h4.row
  have HDO : Hid (Calls Tryz.prog 41 #[.pointer (some ⟨b, 18, none⟩), .func (.func 42) #[] #[.pointer (some ⟨x, 0, none⟩), .pointer (some ⟨x + 1, 0, none⟩), .pointer (some ⟨x + 2, 0, none⟩)]] w4 fun e w' => e = .returned (.tuple #[]) ∧ CoO w0 w' b (Xn X w w') (end1C R ee ver LI) ∧ Sets (fun g => g = b) w4 w') := hide (by
    refine Calls.mono (cdo_first ee ver hb hd q0 q1 q2 (by omega) hg (fun e W m => hI e W m X vg)) ?_
    rintro e w' ⟨rfl, ⟨va', h1, h2, h3⟩, h5⟩
    have hxs : ∀ g, X g → g < w.heap.size := fun g hg => (h.xs g hg).2
    have hs4 := hb4.size
    refine ⟨rfl, ⟨⟨vg, va', h1, (hg.sets h5 (fun g _ hn => hn)).up (fun g hg => .inl hg), h2, fun g hgo => ?_⟩, Sets.below h4.low h5 (fun g e => by rw [e]; exact h4.old) h4.low.size, .inl h4.xb, fun g hgx => ?_⟩, h5⟩
    · have h6 := h3 g hgo
      exact ⟨.inr ⟨Nat.le_trans hs4 h6.1, h6.2⟩, by omega, fun e => by have := hxs g (hg.x g e); omega⟩
    · rcases hgx with hgx | hgx
      · have := h.xs g hgx
        exact ⟨this.1, Nat.lt_of_lt_of_le (Nat.lt_of_lt_of_le this.2 hs4) h5.size⟩
      · exact ⟨Nat.le_trans h.low.size hgx.1, hgx.2⟩)
  have k0 : w4.cell? ⟨x, 0, none⟩ = some (.pointer (some ⟨b, 0, none⟩)) := (cell_of_row _ _ 0 _ _ _ q0).trans rfl
  have HW4 := hide hw4
  have HX := hide hx
  have HB4 := hide hb4
  clear h h4 hb hg ha q0 q1 q2 hb4 hw4 hx hbl hI hd
  go_enter Tryz.func29, Tryz.ntmps29
  go_upto_region 1 with fail
  try rw [HW4.out]
  try rw [HX.out]
  simp only [Nat.add_assoc, Nat.reduceAdd]
  go_wp2_with fail
  refine (Calls.mono HDO.out ?_); rintro e w5 ⟨rfl, h1, h2⟩
  have H1 := hide h1
  have H2 := hide ((Sets.of (S := fun g => g = b) HB4.out).trans h2 (fun _ _ h => h))
  clear h1 h2
  go_wp2_with fail
  go_end0
  exact ⟨rfl, H1.out, H2.out⟩
end Go.Proofs.YtlabpgdimhbocaaGreat
