/- round.Round: end, Phase: contracts. Conditions: the round as it lies. -/
import Derived.Test.YtikecafblampeaaRndS
import Derived.Test.YtikecafblampeaaOnce
namespace Go.Proofs.Ytikecafblampeaa
set_option linter.unusedVariables false
set_option linter.unusedSimpArgs false
open Go.ChangeShapes Go.WideShapes Go.ChangeAt Go.RowKit

theorem al3r (w : World) (o1 o2 o3 : Obj) (w4 : World) (h4 : ((w.alloc o1).alloc o2).alloc o3 = w4) : w4.heap[w.heap.size]? = some o1 ∧ w4.heap[w.heap.size + 1]? = some o2 ∧ w4.heap[w.heap.size + 2]? = some o3 ∧ Below w.heap.size w w4 := by
  have s1 : (w.alloc o1).heap.size = w.heap.size + 1 := by simp
  have g1 := heap_alloc_new w o1
  have b1 := below_alloc (Below.refl w.heap.size w) o1
  generalize w.alloc o1 = w1 at *
  have s2 : (w1.alloc o2).heap.size = w1.heap.size + 1 := by simp
  have g2 := heap_alloc_new w1 o2
  have b2 := below_alloc (Below.refl w1.heap.size w1) o2
  generalize w1.alloc o2 = w2 at *
  have g3 := heap_alloc_new w2 o3
  have b3 := below_alloc (Below.refl w2.heap.size w2) o3
  generalize w2.alloc o3 = w3 at *
  subst h4
  rw [s2, s1] at g3
  rw [s1] at g2
  exact ⟨(b3.block _ (by omega)).trans ((b2.block _ (by omega)).trans g1), (b3.block _ (by omega)).trans g2, g3, below_step (below_step b1 b2) b3⟩
/-- A round that has ended. -/
def endR (R : Rs) (ee ver : Int) : Rs := { R with aid := R.id, ae := ee, av := ver, ph := 3 }
theorem set9 {w : World} {b : Nat} {R : Rs} {m : Int} {v : Value} (ee ver : Int) (h : w.heap[b]? = some (.cells (rsL R m v).toArray 79 (0, 0))) :
    (((((((((w.setCell ⟨b, 18, none⟩ (.int .u64 R.id)).setCell ⟨b, 19, none⟩ (.int .i64 0)).setCell ⟨b, 20, none⟩ (.int .i64 0)).setCell ⟨b, 21, none⟩ (.int .u64 0)).setCell ⟨b, 22, none⟩ (.int .i64 0)).setCell ⟨b, 23, none⟩ (.int .i64 ee)).setCell ⟨b, 24, none⟩ (.int .u64 ver)).setCell ⟨b, 25, none⟩ (.slice none 0 0)).setCell ⟨b, 4, none⟩ (.int .i64 3)).heap[b]? = some (.cells (rsL (endR R ee ver) m v).toArray 79 (0, 0)) :=
  set_of_list (set_of_list (set_of_list (set_of_list (set_of_list (set_of_list (set_of_list (set_of_list (set_of_list h _) _) _) _) _) _) _) _) _
set_option maxRecDepth 100000 in
set_option maxHeartbeats 3200000 in
theorem rend_clos {w : World} {b x : Nat} {R : Rs} {m : Int} {v : Value} (ee ver : Int) (hb : w.heap[b]? = some (.cells (rsL R m v).toArray 79 (0, 0))) (hx0 : w.heap[x]? = some (.cells #[.pointer (some ⟨b, 0, none⟩)] 24 (0, 0))) (hx1 : w.heap[x + 1]? = some (.cells #[.int .i64 ee] 25 (0, 0))) (hx2 : w.heap[x + 2]? = some (.cells #[.int .u64 ver] 28 (0, 0))) (hbx : b < x) :
    Calls Try.prog 48 #[.pointer (some ⟨x, 0, none⟩), .pointer (some ⟨x + 1, 0, none⟩), .pointer (some ⟨x + 2, 0, none⟩)] w fun e w' => e = .returned (.tuple #[]) ∧ w'.heap[b]? = some (.cells (rsL (endR R ee ver) m v).toArray 79 (0, 0)) ∧ Sets (fun g => g = b) w w' := by
  have l0 := (Array.getElem?_eq_some_iff.1 hx0).1
  have l1 := (Array.getElem?_eq_some_iff.1 hx1).1
  have l2 := (Array.getElem?_eq_some_iff.1 hx2).1
  have lb := (Array.getElem?_eq_some_iff.1 hb).1
  have HC : Hid (∀ W : World, Below w.heap.size w W → W.cell? ⟨x, 0, none⟩ = some (.pointer (some ⟨b, 0, none⟩)) ∧ W.cell? ⟨x + 1, 0, none⟩ = some (.int .i64 ee) ∧ W.cell? ⟨x + 2, 0, none⟩ = some (.int .u64 ver) ∧ W.cell? ⟨b, 2, none⟩ = some (.int .u64 R.id)) := hide (fun W hW =>
    ⟨(cell_of_row _ _ 0 _ _ _ ((hW.block _ l0).trans hx0)).trans rfl, (cell_of_row _ _ 0 _ _ _ ((hW.block _ l1).trans hx1)).trans rfl, (cell_of_row _ _ 0 _ _ _ ((hW.block _ l2).trans hx2)).trans rfl, (cell_of_list (o := 2) ((hW.block _ lb).trans hb)).trans rfl⟩)
  obtain ⟨ud, hud⟩ : ∃ ud, w.drew = ud := ⟨_, rfl⟩
  have HUD : Hid (Below w.heap.size w ud) := hide (by rw [← hud]; exact (Below.refl _ _).drew)
  have hbu : ud.heap[b]? = some (.cells (rsL R m v).toArray 79 (0, 0)) := by rw [← hud]; exact hb
  have HCL : Hid (ud.cell? ⟨b, 18, none⟩ = some (.int .u64 R.aid) ∧ ud.cell? ⟨b, 19, none⟩ = some (.int .i64 0) ∧ ud.cell? ⟨b, 20, none⟩ = some (.int .i64 0) ∧ ud.cell? ⟨b, 21, none⟩ = some (.int .u64 0) ∧ ud.cell? ⟨b, 22, none⟩ = some (.int .i64 0) ∧ ud.cell? ⟨b, 23, none⟩ = some (.int .i64 R.ae) ∧ ud.cell? ⟨b, 24, none⟩ = some (.int .u64 R.av) ∧ ud.cell? ⟨b, 25, none⟩ = some (.slice none 0 0) ∧ ud.cell? ⟨b, 4, none⟩ = some (.int .i64 R.ph)) := hide
    ⟨(cell_of_list (o := 18) hbu).trans rfl, (cell_of_list (o := 19) hbu).trans rfl, (cell_of_list (o := 20) hbu).trans rfl, (cell_of_list (o := 21) hbu).trans rfl, (cell_of_list (o := 22) hbu).trans rfl, (cell_of_list (o := 23) hbu).trans rfl, (cell_of_list (o := 24) hbu).trans rfl, (cell_of_list (o := 25) hbu).trans rfl, (cell_of_list (o := 4) hbu).trans rfl⟩
  have HFZ : Hid (∀ o, ud.frozen? ⟨b, o, none⟩ = false) := hide (fun o => by simp [World.frozen?, hbu])
  have HBU := hide hbu
  have HUW := hide hud
  have HXL : Hid (x < ud.heap.size) := hide (Nat.lt_of_lt_of_le l0 HUD.out.size)
  clear hb hx0 hx1 hx2 l0 l1 l2 lb hbu hud
  go_enter Try.func48, Try.ntmps48
  go_upto_region 0 with fail
  refine j_startD [10] HUW.out (by kernel_rfl) ?_
  refine' j_take (i := 0) (v := _) [8, 9, 10] ?hi0 (by kernel_rfl) (by kernel_rfl) (by kernel_rfl) (by kernel_rfl) (by kernel_rfl) (Or.inl ⟨?hw0, ?hy0⟩) ?rest0
  case hi0 => (simp only [List.getElem?_toArray, List.getElem?_cons_succ, List.getElem?_cons_zero]; rfl)
  case hw0 => rfl
  case hy0 => (intro w' hw'; obtain ⟨j0, j1, j2, j3⟩ := HC.out _ (below_step HUD.out hw'); go_simp; try with_reducible rfl)
  try simp only [Act.put, List.setIfInBounds_toArray, List.set_cons_zero, List.set_cons_succ]
  refine' j_take (i := 1) (v := _) [2, 3, 4, 7, 8, 9, 10] ?hi1 (by kernel_rfl) (by kernel_rfl) (by kernel_rfl) (by kernel_rfl) (by kernel_rfl) (Or.inl ⟨?hw1, ?hy1⟩) ?rest1
  case hi1 => (simp only [List.getElem?_toArray, List.getElem?_cons_succ, List.getElem?_cons_zero]; rfl)
  case hw1 => rfl
  case hy1 => (intro w' hw'; obtain ⟨j0, j1, j2, j3⟩ := HC.out _ (below_step HUD.out hw'); go_simp; try with_reducible rfl)
  try simp only [Act.put, List.setIfInBounds_toArray, List.set_cons_zero, List.set_cons_succ]
  refine' j_take (i := 2) (v := _) [3, 4, 7, 8, 9, 10] ?hi2 (by kernel_rfl) (by kernel_rfl) (by kernel_rfl) (by kernel_rfl) (by kernel_rfl) (Or.inl ⟨?hw2, ?hy2⟩) ?rest2
  case hi2 => (simp only [List.getElem?_toArray, List.getElem?_cons_succ, List.getElem?_cons_zero]; rfl)
  case hw2 => rfl
  case hy2 => (intro w' hw'; go_simp; try with_reducible rfl)
  try simp only [Act.put, List.setIfInBounds_toArray, List.set_cons_zero, List.set_cons_succ]
  refine' j_take (i := 3) (v := _) [4, 7, 8, 9, 10] ?hi3 (by kernel_rfl) (by kernel_rfl) (by kernel_rfl) (by kernel_rfl) (by kernel_rfl) (Or.inl ⟨?hw3, ?hy3⟩) ?rest3
  case hi3 => (simp only [List.getElem?_toArray, List.getElem?_cons_succ, List.getElem?_cons_zero]; rfl)
  case hw3 => rfl
  case hy3 => (intro w' hw'; go_simp; try with_reducible rfl)
  try simp only [Act.put, List.setIfInBounds_toArray, List.set_cons_zero, List.set_cons_succ]
  refine' j_take (i := 4) (v := _) [7, 8, 9, 10] ?hi4 (by kernel_rfl) (by kernel_rfl) (by kernel_rfl) (by kernel_rfl) (by kernel_rfl) (Or.inl ⟨?hw4, ?hy4⟩) ?rest4
  case hi4 => (simp only [List.getElem?_toArray, List.getElem?_cons_succ, List.getElem?_cons_zero]; rfl)
  case hw4 => rfl
  case hy4 => (intro w' hw'; obtain ⟨j0, j1, j2, j3⟩ := HC.out _ (below_step HUD.out hw'); go_simp; try with_reducible rfl)
  try simp only [Act.put, List.setIfInBounds_toArray, List.set_cons_zero, List.set_cons_succ]
  refine' j_take (i := 5) (v := _) [7, 8, 9, 10] ?hi5 (by kernel_rfl) (by kernel_rfl) (by kernel_rfl) (by kernel_rfl) (by kernel_rfl) (Or.inl ⟨?hw5, ?hy5⟩) ?rest5
  case hi5 => (simp only [List.getElem?_toArray, List.getElem?_cons_succ, List.getElem?_cons_zero]; rfl)
  case hw5 => rfl
  case hy5 => (intro w' hw'; obtain ⟨j0, j1, j2, j3⟩ := HC.out _ (below_step HUD.out hw'); go_simp; try with_reducible rfl)
  try simp only [Act.put, List.setIfInBounds_toArray, List.set_cons_zero, List.set_cons_succ]
  refine' j_take (i := 6) (v := _) [7, 8, 9, 10] ?hi6 (by kernel_rfl) (by kernel_rfl) (by kernel_rfl) (by kernel_rfl) (by kernel_rfl) (Or.inl ⟨?hw6, ?hy6⟩) ?rest6
  case hi6 => (simp only [List.getElem?_toArray, List.getElem?_cons_succ, List.getElem?_cons_zero]; rfl)
  case hw6 => rfl
  case hy6 => (intro w' hw'; obtain ⟨j0, j1, j2, j3⟩ := HC.out _ (below_step HUD.out hw'); go_simp; try with_reducible rfl)
  try simp only [Act.put, List.setIfInBounds_toArray, List.set_cons_zero, List.set_cons_succ]
  refine' j_take (i := 7) (v := _) [8, 9, 10] ?hi7 (by kernel_rfl) (by kernel_rfl) (by kernel_rfl) (by kernel_rfl) (by kernel_rfl) (Or.inl ⟨?hw7, ?hy7⟩) ?rest7
  case hi7 => (simp only [List.getElem?_toArray, List.getElem?_cons_succ, List.getElem?_cons_zero]; rfl)
  case hw7 => rfl
  case hy7 => (intro w' hw'; go_simp; try with_reducible rfl)
  try simp only [Act.put, List.setIfInBounds_toArray, List.set_cons_zero, List.set_cons_succ]
  refine' j_take (i := 8) (v := _) [9, 10] ?hi8 (by kernel_rfl) (by kernel_rfl) (by kernel_rfl) (by kernel_rfl) (by kernel_rfl) (Or.inl ⟨?hw8, ?hy8⟩) ?rest8
  case hi8 => (simp only [List.getElem?_toArray, List.getElem?_cons_succ, List.getElem?_cons_zero]; rfl)
  case hw8 => rfl
  case hy8 => (intro w' hw'; go_simp; try with_reducible rfl)
  try simp only [Act.put, List.setIfInBounds_toArray, List.set_cons_zero, List.set_cons_succ]
  refine' j_take (i := 9) (v := _) [10] ?hi9 (by kernel_rfl) (by kernel_rfl) (by kernel_rfl) (by kernel_rfl) (by kernel_rfl) (Or.inl ⟨?hw9, ?hy9⟩) ?rest9
  case hi9 => (simp only [List.getElem?_toArray, List.getElem?_cons_succ, List.getElem?_cons_zero]; rfl)
  case hw9 => rfl
  case hy9 => (intro w' hw'; go_simp; try with_reducible rfl)
  try simp only [Act.put, List.setIfInBounds_toArray, List.set_cons_zero, List.set_cons_succ]
  refine' wpAnyJ_last (i := 10) (o := _) (by kernel_rfl) ?ho10 (by kernel_rfl) (fun K hK => ?step10)
  case ho10 => (simp only [List.getElem?_toArray, List.getElem?_cons_succ, List.getElem?_cons_zero]; rfl)
  obtain ⟨s0, s1, s2, s3, s4, s5, s6, s7, s8⟩ := HCL.out
  have sf := HFZ.out
  go_simp
  refine hK.out _ _ ?_
  clear hK K s0 s1 s2 s3 s4 s5 s6 s7 s8 sf
  try simp only [Act.put, List.setIfInBounds_toArray, List.set_cons_zero, List.set_cons_succ]
  refine wpAnyJ_done (by kernel_rfl) ?_ _
  refine NoPanic.normal ?_
  have hE := set9 ee ver HBU.out
  have hS : Sets (fun g => g = b) ud (((((((((ud.setCell ⟨b, 18, none⟩ (.int .u64 R.id)).setCell ⟨b, 19, none⟩ (.int .i64 0)).setCell ⟨b, 20, none⟩ (.int .i64 0)).setCell ⟨b, 21, none⟩ (.int .u64 0)).setCell ⟨b, 22, none⟩ (.int .i64 0)).setCell ⟨b, 23, none⟩ (.int .i64 ee)).setCell ⟨b, 24, none⟩ (.int .u64 ver)).setCell ⟨b, 25, none⟩ (.slice none 0 0)).setCell ⟨b, 4, none⟩ (.int .i64 3)) := (((((((((Sets.refl (S := fun g => g = b) ud).set (g := b) (fun _ => rfl) 18 _).set (g := b) (fun _ => rfl) 19 _).set (g := b) (fun _ => rfl) 20 _).set (g := b) (fun _ => rfl) 21 _).set (g := b) (fun _ => rfl) 22 _).set (g := b) (fun _ => rfl) 23 _).set (g := b) (fun _ => rfl) 24 _).set (g := b) (fun _ => rfl) 25 _).set (g := b) (fun _ => rfl) 4 _
  have HE := hide hE
  have HS := hide ((Sets.of (S := fun g => g = b) HUD.out).trans hS (fun _ _ h => h))
  have hb8 := set_of_list (o := 25) (set_of_list (o := 24) (set_of_list (o := 23) (set_of_list (o := 22) (set_of_list (o := 21) (set_of_list (o := 20) (set_of_list (o := 19) (set_of_list (o := 18) HBU.out (.int .u64 R.id)) (.int .i64 0)) (.int .i64 0)) (.int .u64 0)) (.int .i64 0)) (.int .i64 ee)) (.int .u64 ver)) (.slice none 0 0)
  have hs8 : Sets (fun g => g = b) ud ((((((((ud.setCell ⟨b, 18, none⟩ (.int .u64 R.id)).setCell ⟨b, 19, none⟩ (.int .i64 0)).setCell ⟨b, 20, none⟩ (.int .i64 0)).setCell ⟨b, 21, none⟩ (.int .u64 0)).setCell ⟨b, 22, none⟩ (.int .i64 0)).setCell ⟨b, 23, none⟩ (.int .i64 ee)).setCell ⟨b, 24, none⟩ (.int .u64 ver)).setCell ⟨b, 25, none⟩ (.slice none 0 0)) := ((((((((Sets.refl (S := fun g => g = b) ud).set (g := b) (fun _ => rfl) 18 _).set (g := b) (fun _ => rfl) 19 _).set (g := b) (fun _ => rfl) 20 _).set (g := b) (fun _ => rfl) 21 _).set (g := b) (fun _ => rfl) 22 _).set (g := b) (fun _ => rfl) 23 _).set (g := b) (fun _ => rfl) 24 _).set (g := b) (fun _ => rfl) 25 _
  obtain ⟨u8, hu8⟩ : ∃ u8, ((((((((ud.setCell ⟨b, 18, none⟩ (.int .u64 R.id)).setCell ⟨b, 19, none⟩ (.int .i64 0)).setCell ⟨b, 20, none⟩ (.int .i64 0)).setCell ⟨b, 21, none⟩ (.int .u64 0)).setCell ⟨b, 22, none⟩ (.int .i64 0)).setCell ⟨b, 23, none⟩ (.int .i64 ee)).setCell ⟨b, 24, none⟩ (.int .u64 ver)).setCell ⟨b, 25, none⟩ (.slice none 0 0)) = u8 := ⟨_, rfl⟩
  rw [hu8] at hb8 hs8 HE HS
  rw [hu8]
  have k4 : u8.cell? ⟨b, 4, none⟩ = some (.int .i64 R.ph) := (cell_of_list (o := 4) hb8).trans rfl
  have z4 : u8.frozen? ⟨b, 4, none⟩ = false := by simp [World.frozen?, hb8]
  have kx : u8.cell? ⟨x, 0, none⟩ = some (.pointer (some ⟨b, 0, none⟩)) := hs8.cell HXL.out (by omega) (HC.out ud HUD.out).1
  clear hE hS hb8 hs8 hu8 HC HCL HFZ
  go_wp2_with fail
  go_end0
  exact ⟨rfl, HE.out, HS.out⟩
set_option maxRecDepth 100000 in
set_option maxHeartbeats 3200000 in
theorem rslow {w : World} {b x : Nat} {R : Rs} {v : Value} (ee ver : Int) (hb : w.heap[b]? = some (.cells (rsL R 0 v).toArray 79 (0, 0))) (hd : R.d = 0) (hx0 : w.heap[x]? = some (.cells #[.pointer (some ⟨b, 0, none⟩)] 24 (0, 0))) (hx1 : w.heap[x + 1]? = some (.cells #[.int .i64 ee] 25 (0, 0))) (hx2 : w.heap[x + 2]? = some (.cells #[.int .u64 ver] 28 (0, 0))) (hbx : b < x) :
    Calls Try.prog 65 #[.pointer (some ⟨b, 15, none⟩), .func (.func 48) #[] #[.pointer (some ⟨x, 0, none⟩), .pointer (some ⟨x + 1, 0, none⟩), .pointer (some ⟨x + 2, 0, none⟩)]] w fun e w' => e = .returned (.tuple #[]) ∧ w'.heap[b]? = some (.cells (rsL { endR R ee ver with d := 1 } 0 v).toArray 79 (0, 0)) ∧ Sets (fun g => g = b) w w' := by
  have l0 := (Array.getElem?_eq_some_iff.1 hx0).1
  have l1 := (Array.getElem?_eq_some_iff.1 hx1).1
  have l2 := (Array.getElem?_eq_some_iff.1 hx2).1
  have h0 : w.cell? ⟨b, 15, none⟩ = some (.int .u32 R.d) := (cell_of_list (o := 15) hb).trans rfl
  have h1 : w.cell? ⟨b, 16, none⟩ = some (.int .i32 0) := (cell_of_list (o := 16) hb).trans rfl
  have hz : w.frozen? ⟨b, 16, none⟩ = false := by simp [World.frozen?, hb]
  obtain ⟨w1, hw1⟩ : ∃ w1, w.setCell ⟨b, 16, none⟩ (.int .i32 1) = w1 := ⟨_, rfl⟩
  have hbx1 : w1.heap[b]? = some (.cells (rsL R 1 v).toArray 79 (0, 0)) := by rw [← hw1]; exact set_of_list hb _
  have hs1 : Sets (fun g => g = b) w w1 := by rw [← hw1]; exact (Sets.refl (S := fun g => g = b) w).set (g := b) (fun _ => rfl) 16 _
  have HCLO := hide (rend_clos ee ver hbx1 ((hs1.block _ l0 (by omega)).trans hx0) ((hs1.block _ l1 (by omega)).trans hx1) ((hs1.block _ l2 (by omega)).trans hx2) hbx)
  have g0 : w1.cell? ⟨b, 15, none⟩ = some (.int .u32 0) := by rw [← hd]; exact (cell_of_list (o := 15) hbx1).trans rfl
  have hl := run_call_load (P := Try.prog) Try.func75 (by kernel_rfl) (by kernel_rfl) (by kernel_rfl) .u32 (by kernel_rfl) (w := w1) (a := ⟨b, 15, none⟩) (x := 0) g0
  have hnot : ∀ (x : Bool) (w : World), (Op.unary .not (.bool x)).run Try.prog w = .ok (.bool (!x)) w := fun _ _ => rfl
  have HS1 := hide hs1
  have HW1 := hide hw1
  have HD := hide hd
  clear hb hbx1 hs1 hx0 hx1 hx2 l0 l1 l2 h0 hd
  go_enter_defers Try.func65, Try.ntmps65
  go_wp2_with (first | (go_at_call 64; go_in) | (go_at_call 76; refine (lock_free ⟨b, 16, none⟩ _ h1 hz).mono ?_; rintro e w' ⟨rfl, rfl⟩; rw [HW1.out]) | (go_at_call 48; refine (Calls.mono HCLO.out ?_); rintro e w3 ⟨rfl, hbx3, hS3⟩; have HB3 := hide hbx3; have HS3 := hide hS3; clear hbx3 hS3))
  have k0 : w3.cell? ⟨b, 15, none⟩ = some (.int .u32 R.d) := (cell_of_list (o := 15) HB3.out).trans rfl
  have hz3 : ∀ o, w3.frozen? ⟨b, o, none⟩ = false := fun o => by simp [World.frozen?, HB3.out]
  have hb4 : (w3.drew.setCell ⟨b, 15, none⟩ (.int .u32 1)).heap[b]? = some (.cells (rsL { endR R ee ver with d := 1 } 1 v).toArray 79 (0, 0)) := set_of_list (w := w3.drew) HB3.out _
  have m1 : (w3.drew.setCell ⟨b, 15, none⟩ (.int .u32 1)).cell? ⟨b, 16, none⟩ = some (.int .i32 1) := (cell_of_list (o := 16) hb4).trans rfl
  unfold bodyPostD
  refine leaves_cons (f := 78) (args := #[.pointer (some ⟨b, 15, none⟩), .bool true]) (by simp) (by simp [go_sem]) ?_
  refine (store_deferred ⟨b, 15, none⟩ (.int .u32 R.d) .returning _ k0 (hz3 15)).mono ?_
  rintro e u' w'' ⟨rfl, rfl, rfl⟩
  refine leaves_cons (f := 77) (args := #[.pointer (some ⟨b, 16, none⟩)]) (by simp [settle]) (by simp [go_sem]) ?_
  refine (unlock_deferred ⟨b, 16, none⟩ _ _ m1 (by simp [World.frozen?, hb4])).mono ?_
  rintro e u' w'' ⟨rfl, rfl, rfl⟩
  have hb5 : ((w3.drew.setCell ⟨b, 15, none⟩ (.int .u32 1)).setCell ⟨b, 16, none⟩ (.int .i32 0)).heap[b]? = some (.cells (rsL { endR R ee ver with d := 1 } 0 v).toArray 79 (0, 0)) := set_of_list hb4 _
  have hs5 : Sets (fun g => g = b) w3 ((w3.drew.setCell ⟨b, 15, none⟩ (.int .u32 1)).setCell ⟨b, 16, none⟩ (.int .i32 0)) := ((Sets.refl (S := fun g => g = b) w3).drew.set (g := b) (fun _ => rfl) 15 _).set (g := b) (fun _ => rfl) 16 _
  have hS5 := (HS1.out.trans HS3.out (fun _ _ h => h)).trans hs5 (fun _ _ h => h)
  simp [Leaves, settle, results, Try.results65]
  exact ⟨hb5, hS5⟩
/-- A round that is ended: the first time, or once more. -/
def end1R (R : Rs) (ee ver : Int) : Rs := if R.d = 0 then { endR R ee ver with d := 1 } else R
set_option maxRecDepth 100000 in
set_option maxHeartbeats 1600000 in
theorem rdo_first {w : World} {b x : Nat} {R : Rs} {v : Value} (ee ver : Int) (hb : w.heap[b]? = some (.cells (rsL R 0 v).toArray 79 (0, 0))) (hd : R.d = 0) (hx0 : w.heap[x]? = some (.cells #[.pointer (some ⟨b, 0, none⟩)] 24 (0, 0))) (hx1 : w.heap[x + 1]? = some (.cells #[.int .i64 ee] 25 (0, 0))) (hx2 : w.heap[x + 2]? = some (.cells #[.int .u64 ver] 28 (0, 0))) (hbx : b < x) :
    Calls Try.prog 47 #[.pointer (some ⟨b, 15, none⟩), .func (.func 48) #[] #[.pointer (some ⟨x, 0, none⟩), .pointer (some ⟨x + 1, 0, none⟩), .pointer (some ⟨x + 2, 0, none⟩)]] w fun e w' => e = .returned (.tuple #[]) ∧ w'.heap[b]? = some (.cells (rsL { endR R ee ver with d := 1 } 0 v).toArray 79 (0, 0)) ∧ Sets (fun g => g = b) w w' := by
  have h0 : w.cell? ⟨b, 15, none⟩ = some (.int .u32 0) := by rw [← hd]; exact (cell_of_list (o := 15) hb).trans rfl
  have hl := run_call_load (P := Try.prog) Try.func75 (by kernel_rfl) (by kernel_rfl) (by kernel_rfl) .u32 (by kernel_rfl) h0
  have hnot : ∀ (x : Bool) (w : World), (Op.unary .not (.bool x)).run Try.prog w = .ok (.bool (!x)) w := fun _ _ => rfl
  have HSL := hide (rslow ee ver hb hd hx0 hx1 hx2 hbx)
  clear hb hx0 hx1 hx2 hd
  go_enter Try.func47, Try.ntmps47
  go_wp2_with (first | (go_at_call 65; refine (Calls.mono HSL.out ?_); rintro e w' ⟨rfl, h1, h2⟩; have H1 := hide h1; have H2 := hide h2; clear h1 h2) | (go_at_call 64; go_in))
  go_end0
  exact ⟨rfl, H1.out, H2.out⟩
set_option maxRecDepth 100000 in
set_option maxHeartbeats 1600000 in
theorem rend_any {w0 w : World} {b : Nat} {R : Rs} (h : RndO w0 w b R) (ee ver : Int) : Calls Try.prog 29 #[.pointer (some ⟨b, 0, none⟩), .int .i64 ee, .int .u64 ver] w fun e w' => e = .returned (.tuple #[]) ∧ RndO w0 w' b (end1R R ee ver) ∧ Sets (fun g => g = b) w w' := by
  obtain ⟨w4, hw4⟩ : ∃ w4, (((w.alloc (.cells #[.pointer (some ⟨b, 0, none⟩)] 24)).alloc (.cells #[.int .i64 ee] 25)).alloc (.cells #[.int .u64 ver] 28)) = w4 := ⟨_, rfl⟩
  obtain ⟨q0, q1, q2, hb4⟩ := al3r w _ _ _ w4 hw4
  obtain ⟨x, hx⟩ : ∃ x, w.heap.size = x := ⟨_, rfl⟩
  rw [hx] at q0 q1 q2
  have hbl := h.lt
  have h4 := h.below hb4
  obtain ⟨v, hb, ho⟩ := h4.row
  have HDO : Hid (Calls Try.prog 47 #[.pointer (some ⟨b, 15, none⟩), .func (.func 48) #[] #[.pointer (some ⟨x, 0, none⟩), .pointer (some ⟨x + 1, 0, none⟩), .pointer (some ⟨x + 2, 0, none⟩)]] w4 fun e w' => e = .returned (.tuple #[]) ∧ RndO w0 w' b (end1R R ee ver) ∧ Sets (fun g => g = b) w4 w') := hide (by
    by_cases hd : R.d = 0
    · refine Calls.mono (rdo_first ee ver hb hd q0 q1 q2 (by omega)) ?_
      rintro e w' ⟨rfl, h1, h2⟩
      refine ⟨rfl, ⟨⟨v, ?_, ?_⟩, Sets.below h4.low h2 (fun g e => by rw [e]; exact h4.old) h4.low.size, h4.old⟩, h2⟩
      · unfold end1R; rw [if_pos hd]; exact h1
      · have : (end1R R ee ver).L = R.L := by unfold end1R; rw [if_pos hd]; rfl
        rw [this]
        exact ho.sets_ h2 (fun g hg e => by omega)
    · have h0 : w4.cell? ⟨b, 15, none⟩ = some (.int .u32 R.d) := (cell_of_list (o := 15) hb).trans rfl
      refine Calls.mono (once_done ⟨b, 15, none⟩ R.d hd _ w4 h0) ?_
      rintro e w' ⟨rfl, rfl⟩
      exact ⟨rfl, by unfold end1R; rw [if_neg hd]; exact h4, Sets.refl _⟩)
  have k0 : w4.cell? ⟨x, 0, none⟩ = some (.pointer (some ⟨b, 0, none⟩)) := (cell_of_row _ _ 0 _ _ _ q0).trans rfl
  have HW4 := hide hw4
  have HX := hide hx
  have HB4 := hide hb4
  clear h h4 hb ho q0 q1 q2 hb4 hw4 hx hbl
  go_enter Try.func29, Try.ntmps29
  go_upto_region 1 with fail
  try rw [HW4.out]
  try rw [HX.out]
  simp only [Nat.add_assoc, Nat.reduceAdd]
  go_wp2_with fail
  refine (Calls.mono HDO.out ?_); rintro e w5 ⟨rfl, h1, h2⟩
  have H1 := hide h1
  have H2 := hide ((Sets.of (S := fun g => g = b) HB4.out).trans h2 (fun _ _ h => h))
  clear h1 h2
  go_wp2_with fail
  go_end0
  exact ⟨rfl, H1.out, H2.out⟩
theorem rphase_any {w0 w : World} {b : Nat} {R : Rs} (h : RndO w0 w b R) : Calls Try.prog 11 #[.pointer (some ⟨b, 0, none⟩)] w fun e w' => e = .returned (.int .i64 R.ph) ∧ w' = w := by
  obtain ⟨v, hb, _⟩ := h.row
  have c4 : w.cell? ⟨b, 4, none⟩ = some (.int .i64 R.ph) := (cell_of_list (o := 4) hb).trans rfl
  clear h hb
  go_enter Try.func11, Try.ntmps11
  go_wp2_with fail
  go_ret
  exact ⟨rfl, rfl⟩
end Go.Proofs.Ytikecafblampeaa
