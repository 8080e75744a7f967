/- clepsydra/item.Bytes of items behind nothing, clepsydra/tree.leaf: contracts. Conditions: readable items, at most 2000. -/
import Derived.Test.YthpbohheddkfiaaTSum
import Derived.Test.YthpbohheddkfiaaMsg
import Derived.Test.YthpbohheddkfiaaJ
namespace Go.Proofs.Ythpbohheddkfiaa
set_option linter.unusedVariables false
set_option linter.unusedSimpArgs false
open Go.ChangeShapes Go.WideShapes Go.ChangeAt Go.RowKit

theorem signT_bd (x : Int) : 0 ≤ signT x ∧ signT x < 18446744073709551616 := by
  unfold signT bits
  simp only [IntKind.wrap, IntKind.bits, IntKind.signed]
  simp
  omega
/-- An item's three numbers as bytes, the first j of them. -/
def triT (x : It) (j : Nat) : List Int := if j = 0 then [] else if j = 1 then putT x.t else if j = 2 then putT x.t ++ putT x.v else putT x.t ++ putT x.v ++ putT (signT x.x)
/-- An item as bytes; items, with how many ahead. -/
def itemT (x : It) : List Int := [x.s % 256, x.k % 256] ++ triT x 3
def rowT (L : List It) : List Int := L.flatMap itemT
def itemsT (L : List It) : List Int := putT L.length ++ rowT L
theorem rowT_snoc (L : List It) (x : It) : rowT (L ++ [x]) = rowT L ++ itemT x := by simp [rowT]
theorem putT_len (n : Int) : (putT n).length ≤ 11 := putAuxT_len 11 n
theorem triT_len (x : It) (j : Nat) : (triT x j).length ≤ 33 := by
  have h1 := putT_len x.t
  have h2 := putT_len x.v
  have h3 := putT_len (signT x.x)
  unfold triT
  split
  · simp
  split
  · omega
  split
  · rw [List.length_append]; omega
  · rw [List.length_append, List.length_append]; omega
theorem itemT_len (x : It) : (itemT x).length ≤ 35 := by
  unfold itemT
  have := triT_len x 3
  rw [List.length_append]
  simp only [List.length_cons, List.length_nil]
  omega
theorem rowT_len : ∀ (L : List It), (rowT L).length ≤ 35 * L.length
  | [] => by simp [rowT]
  | x :: L => by
    have h1 := rowT_len L
    have h2 := itemT_len x
    show (itemT x ++ rowT L).length ≤ _
    rw [List.length_append, List.length_cons]
    omega
theorem putAuxT_b : ∀ (f : Nat) (n : Int), 0 ≤ n → ∀ b ∈ putAuxT f n, isB b
  | 0, _, _ => fun b hb => by simp [putAuxT] at hb
  | f + 1, n, hn => fun b hb => by
    rw [putAuxT] at hb
    split at hb
    · rw [List.mem_singleton] at hb
      subst hb
      unfold isB
      omega
    · rcases List.mem_cons.1 hb with rfl | h
      · unfold isB bits
        simp only [IntKind.wrap, IntKind.bits, IntKind.signed]
        simp
        omega
      · exact putAuxT_b f (n / 128) (by omega) b h
theorem putT_b {n : Int} (hn : 0 ≤ n) : ∀ b ∈ putT n, isB b := putAuxT_b 11 n hn
theorem itemT_b {x : It} (hx : x.wf) : ∀ b ∈ itemT x, isB b := by
  intro b hb
  unfold itemT triT at hb
  simp only [Nat.reduceEqDiff, if_false] at hb
  simp only [List.mem_append, List.mem_cons, List.not_mem_nil, or_false] at hb
  unfold It.wf at hx
  rcases hb with h | (h | h) | h
  · unfold isB; omega
  · exact putT_b (by omega) b h
  · exact putT_b (by omega) b h
  · exact putT_b (signT_bd x.x).1 b h
theorem itemsT_b {L : List It} (hL : ∀ x ∈ L, x.wf) : ∀ b ∈ itemsT L, isB b := by
  intro b hb
  unfold itemsT rowT at hb
  rcases List.mem_append.1 hb with h | h
  · exact putT_b (by omega) b h
  · obtain ⟨x, hx, hb⟩ := List.mem_flatMap.1 h
    exact itemT_b (hL x hx) b hb
set_option maxRecDepth 100000 in
set_option maxHeartbeats 1000000 in
theorem bytes_bad (A : Option Addr) (c : Nat) (L : List It) (w : World) (hl : L.length ≤ 2000) (hL : ItemsAt w A L) (hg : L.all goodB = false) :
    Calls Try.prog 34 #[.slice none 0 0, .slice A L.length c] w fun e w' => e = .returned (.tuple #[.slice none 0 0, .int .i64 1]) ∧ Below w.heap.size w w' := by
  have HA := hide (iall_any A c L w (by omega) hL)
  rw [hg] at HA
  have hlI : ¬ (2000 : Int) < (L.length : Int) := by omega
  clear hL hg
  go_enter Try.func34, Try.ntmps34
  go_wp2_with fail
  refine (Calls.mono HA.out ?_); rintro e w1 ⟨rfl, hb⟩
  have HB := hide hb
  clear hb HA
  go_wp2_with fail
  refine bodyPost_ret (v := .tuple #[.slice none 0 0, .int .i64 1]) (by simp [results, Try.results34]) rfl ?_
  exact ⟨rfl, HB.out⟩
theorem it_cells5 {w : World} {g : Nat} {x : It} {t : TypeId} {fr : Nat × Nat} (h : w.heap[g]? = some (.cells #[.int .i64 x.s, .int .i64 x.k, .int .u64 x.t, .int .u64 x.v, .int .i64 x.x] t fr)) : w.cell? ⟨g, 0, none⟩ = some (.int .i64 x.s) ∧ w.cell? ⟨g, 1, none⟩ = some (.int .i64 x.k) ∧ w.cell? ⟨g, 2, none⟩ = some (.int .u64 x.t) ∧ w.cell? ⟨g, 3, none⟩ = some (.int .u64 x.v) ∧ w.cell? ⟨g, 4, none⟩ = some (.int .i64 x.x) :=
  ⟨(cell_of_row w g 0 _ _ _ h).trans rfl, (cell_of_row w g 1 _ _ _ h).trans rfl, (cell_of_row w g 2 _ _ _ h).trans rfl, (cell_of_row w g 3 _ _ _ h).trans rfl, (cell_of_row w g 4 _ _ _ h).trans rfl⟩
theorem own_ne_ty {α : Type} {cells : α → List Value} {sz : Nat} {e e' : TypeId} {base : Nat} {w : World} {v : Value} {L : List α} {g : Nat} {a : Array Value} {fr : Nat × Nat} (h : OwnL cells sz e base w v L) (hg : w.heap[g]? = some (.cells a e' fr)) (hne : e ≠ e') : v.ownBlock ≠ some g := fun he => by
  rcases h.2 with ⟨rfl, _⟩ | ⟨g', cap, cur, rfl, _, hh, _⟩
  · cases he
  · obtain rfl := Option.some.inj he
    rw [hh] at hg
    injection hg with h1
    injection h1 with _ h2
    exact hne h2
set_option maxRecDepth 100000 in
set_option maxHeartbeats 3200000 in
theorem bytes_good (A : Option Addr) (c : Nat) (L : List It) (w : World) (hl : L.length ≤ 2000) (hL : ItemsAt w A L) (hW : ∀ x ∈ L, x.wf) (hg : L.all goodB = true) :
    Calls Try.prog 34 #[.slice none 0 0, .slice A L.length c] w fun e w' => ∃ v, e = .returned (.tuple #[v, .int .i64 0]) ∧ OwnL (one1 u8v) 1 5 w.heap.size w' v (itemsT L) ∧ Below w.heap.size w w' := by
  have HA := hide (iall_any A c L w (by omega) hL)
  rw [hg] at HA
  have HR := hide hL
  have HW := hide hW
  have hlI : ¬ (2000 : Int) < (L.length : Int) := by omega
  clear hL hW hg
  have hconv : IntKind.u64.wrap (L.length : Int) = (L.length : Int) := by simp only [IntKind.wrap, IntKind.bits, IntKind.signed]; simp; omega
  go_enter Try.func34, Try.ntmps34
  go_wp2_with fail
  refine (Calls.mono HA.out ?_); rintro e w1 ⟨rfl, hb1⟩
  have HB1 := hide hb1
  clear hb1 HA
  go_wp2_with fail
  try rw [hconv]
  refine (Calls.mono (putT_any none 0 [] (L.length : Int) w1 (by simp) RowAt.nil_ (by omega)) ?_); rintro e w2 ⟨v2, rfl, ho2, hb2⟩
  rw [List.nil_append] at ho2
  have HV2 := hide (OwnL.base_ (base' := w.heap.size) ho2 HB1.out.size)
  have HB2 := hide (below_step HB1.out hb2)
  clear ho2 hb2 HB1 hconv
  go_upto_region 8 with fail
  obtain ⟨n, hn⟩ : ∃ n, L.length = n := ⟨_, rfl⟩
  rw [hn] at hl hlI ⊢
  have HN := hide hn
  clear hn
  go_loopw [7, 25] (fun v i wr => ∃ k : Nat, k ≤ n ∧ i = .int .i64 k ∧ OwnL (one1 u8v) 1 5 w2.heap.size wr v (rowT (L.take k)) ∧ Below w2.heap.size w2 wr) (fun _ i _ => n - (intOf i).toNat)
  case atStart => exact ⟨0, by omega, rfl, OwnL.nil_ _ _ _ _ _, Below.refl _ _⟩
  case round =>
    obtain ⟨k, hk, rfl, ho, hb⟩ := hrel
    have HO := hide ho
    have HB := hide hb
    have hbs := hb.size
    clear ho hb
    by_cases hlt : k < n
    · have hkL : k < L.length := by rw [HN.out]; exact hlt
      have hkI : (k : Int) < (n : Int) := by omega
      have hkD : decide ((k : Int) < (n : Int)) = true := decide_eq_true hkI
      obtain ⟨g, off, rfl, hgl, y0, y1, y2, y3, y4⟩ := HR.out.item (below_step HB2.out HB.out) hkL
      have HXS : Hid (rowT (L.take (k + 1)) = rowT (L.take k) ++ itemT (L[k]'hkL)) := hide (by rw [take_snoc hkL, rowT_snoc])
      have hxw := HW.out (L[k]'hkL) (List.getElem_mem _)
      have HRL : Hid ((rowT (L.take k)).length ≤ 70000) := hide (by have := rowT_len (L.take k); have h2 : (L.take k).length ≤ k := List.length_take_le _ _; omega)
      generalize L[k]'hkL = x at *
      generalize rowT (L.take k) = X at *
      have hsg := signT_bd x.x
      unfold It.wf at hxw
      have HXW := hide hxw
      have ht : 0 ≤ x.t ∧ x.t < 18446744073709551616 := by omega
      have hv : 0 ≤ x.v ∧ x.v < 18446744073709551616 := by omega
      have HSG : Hid (∀ W : World, Calls Try.prog 42 #[.int .i64 x.x] W fun e w' => e = .returned (.int .u64 (signT x.x)) ∧ Below W.heap.size W w') := hide (fun W => Calls.mono (sign_any x.x W HXW.out.2.2.2.2) (by rintro e w' ⟨rfl, rfl⟩; exact ⟨rfl, Below.refl _ _⟩))
      clear hxw
      have eb := heap_alloc_new wr (.cells #[.int .i64 x.s, .int .i64 x.k, .int .u64 x.t, .int .u64 x.v, .int .i64 x.x] 33)
      have hba := below_alloc (Below.refl wr.heap.size wr) (.cells #[.int .i64 x.s, .int .i64 x.k, .int .u64 x.t, .int .u64 x.v, .int .i64 x.x] 33)
      have HNB := hide (fun q hq => (OwnL.lt HO.out q hq).2)
      go_upto_region 10 with fail
      obtain ⟨gb, hgb⟩ : ∃ gb, wr.heap.size = gb := ⟨_, rfl⟩
      obtain ⟨wa, hwa⟩ : ∃ wa, wr.alloc (.cells #[.int .i64 x.s, .int .i64 x.k, .int .u64 x.t, .int .u64 x.v, .int .i64 x.x] 33) = wa := ⟨_, rfl⟩
      have HOA := hide (OwnL.below HO.out hba)
      have HBA := hide (below_step HB.out hba)
      rw [hwa] at eb HOA HBA ⊢
      rw [hgb] at eb HNB ⊢
      have hbas := HBA.out.size
      obtain ⟨a0, a1, a2, a3, a4⟩ := it_cells5 eb
      have lgb := (Array.getElem?_eq_some_iff.1 eb).1
      clear y0 y1 y2 y3 y4 hgb hwa hba HO HB hbs hgl
      have eb2 := heap_alloc_new wa (.cells #[.int .u8 (x.s % 256), .int .u8 (x.k % 256)] 5)
      have hba2 := below_alloc (Below.refl wa.heap.size wa) (.cells #[.int .u8 (x.s % 256), .int .u8 (x.k % 256)] 5)
      have HR2 : Hid (ValsAt u8v (wa.alloc (.cells #[.int .u8 (x.s % 256), .int .u8 (x.k % 256)] 5)) (some ⟨wa.heap.size, 0, none⟩) [x.s % 256, x.k % 256]) := hide (vals_of_block (L := [x.s % 256, x.k % 256]) eb2)
      have HOB := hide (OwnL.below HOA.out hba2)
      have HBB := hide (below_step HBA.out hba2)
      have HBC := hide hba2
      have HEB := hide eb
      clear eb2 hba2 eb
      go_upto_region 11 with (at_builtin; refine wpList_append_vals rfl (.tmp 29) (.tmp 36) 69 5 _ 1 rfl Try.underlying69 Try.infoU8t rfl (fun _ => rfl) (by omega) w2.heap.size _ X rfl HOB.out (some ⟨wa.heap.size, 0, none⟩) 2 [x.s % 256, x.k % 256] rfl HR2.out (by have := HRL.out; simp only [List.length_cons, List.length_nil]; omega) HBB.out.size ?_; intro v5 u5 ho5 hg5)
      have HB5 := hide (HBB.out.grown hg5 HBB.out.size (fun q hq => (OwnL.lt HOB.out q hq).1))
      have HO5 := hide ho5
      have HE5 := hide ((hg5.block gb (Nat.lt_of_lt_of_le lgb HBC.out.size) (fun e => by have := HNB.out gb e.symm; omega)).trans ((HBC.out.block gb lgb).trans HEB.out))
      clear a0 a1 a2 a3 a4 lgb HOA HBA HOB HBB HBC HEB HR2 hg5 ho5
      obtain ⟨e0, e1, e2, e3, e4⟩ := it_cells5 HE5.out
      have lg5 := (Array.getElem?_eq_some_iff.1 HE5.out).1
      have HC : Hid (∀ W : World, Below u5.heap.size u5 W → W.cell? ⟨gb, 0, none⟩ = some (.int .i64 x.s) ∧ W.cell? ⟨gb, 1, none⟩ = some (.int .i64 x.k) ∧ W.cell? ⟨gb, 2, none⟩ = some (.int .u64 x.t) ∧ W.cell? ⟨gb, 3, none⟩ = some (.int .u64 x.v) ∧ W.cell? ⟨gb, 4, none⟩ = some (.int .i64 x.x)) := hide (fun W hW => ⟨keep_cell hW e0 lg5, keep_cell hW e1 lg5, keep_cell hW e2 lg5, keep_cell hW e3 lg5, keep_cell hW e4 lg5⟩)
      have HX : Hid (Below u5.heap.size u5 u5.drew) := hide (Below.refl _ _).drew
      clear e0 e1 e2 e3 e4 lg5
      refine j_start [] (by kernel_rfl) ?_
      refine' j_take (i := 0) (v := _) [] ?hi0 (by kernel_rfl) (by kernel_rfl) (by kernel_rfl) (by kernel_rfl) (by kernel_rfl) (Or.inl ⟨?hw0, ?hy0⟩) ?rest0
      case hi0 => (simp only [List.getElem?_toArray, List.getElem?_cons_succ, List.getElem?_cons_zero]; rfl)
      case hw0 => rfl
      case hy0 => (intro w' hw'; go_simp; try with_reducible rfl)
      try simp only [Act.put, List.setIfInBounds_toArray, List.set_cons_zero, List.set_cons_succ]
      refine' j_take (i := 1) (v := _) [] ?hi1 (by kernel_rfl) (by kernel_rfl) (by kernel_rfl) (by kernel_rfl) (by kernel_rfl) (Or.inl ⟨?hw1, ?hy1⟩) ?rest1
      case hi1 => (simp only [List.getElem?_toArray, List.getElem?_cons_succ, List.getElem?_cons_zero]; rfl)
      case hw1 => rfl
      case hy1 => (intro w' hw'; obtain ⟨i0, i1, i2, i3, i4⟩ := HC.out _ (below_step HX.out hw'); go_simp; try with_reducible rfl)
      try simp only [Act.put, List.setIfInBounds_toArray, List.set_cons_zero, List.set_cons_succ]
      refine' j_take (i := 2) (v := _) [] ?hi2 (by kernel_rfl) (by kernel_rfl) (by kernel_rfl) (by kernel_rfl) (by kernel_rfl) (Or.inl ⟨?hw2, ?hy2⟩) ?rest2
      case hi2 => (simp only [List.getElem?_toArray, List.getElem?_cons_succ, List.getElem?_cons_zero]; rfl)
      case hw2 => rfl
      case hy2 => (intro w' hw'; go_simp; try with_reducible rfl)
      try simp only [Act.put, List.setIfInBounds_toArray, List.set_cons_zero, List.set_cons_succ]
      refine' j_take (i := 3) (v := _) [] ?hi3 (by kernel_rfl) (by kernel_rfl) (by kernel_rfl) (by kernel_rfl) (by kernel_rfl) (Or.inl ⟨?hw3, ?hy3⟩) ?rest3
      case hi3 => (simp only [List.getElem?_toArray, List.getElem?_cons_succ, List.getElem?_cons_zero]; rfl)
      case hw3 => rfl
      case hy3 => (intro w' hw'; obtain ⟨i0, i1, i2, i3, i4⟩ := HC.out _ (below_step HX.out hw'); go_simp; try with_reducible rfl)
      try simp only [Act.put, List.setIfInBounds_toArray, List.set_cons_zero, List.set_cons_succ]
      refine' j_take (i := 4) (v := _) [] ?hi4 (by kernel_rfl) (by kernel_rfl) (by kernel_rfl) (by kernel_rfl) (by kernel_rfl) (Or.inl ⟨?hw4, ?hy4⟩) ?rest4
      case hi4 => (simp only [List.getElem?_toArray, List.getElem?_cons_succ, List.getElem?_cons_zero]; rfl)
      case hw4 => rfl
      case hy4 => (intro w' hw'; go_simp; try with_reducible rfl)
      try simp only [Act.put, List.setIfInBounds_toArray, List.set_cons_zero, List.set_cons_succ]
      refine' j_take (i := 5) (v := _) [] ?hi5 (by kernel_rfl) (by kernel_rfl) (by kernel_rfl) (by kernel_rfl) (by kernel_rfl) (Or.inl ⟨?hw5, ?hy5⟩) ?rest5
      case hi5 => (simp only [List.getElem?_toArray, List.getElem?_cons_succ, List.getElem?_cons_zero]; rfl)
      case hw5 => rfl
      case hy5 => (intro w' hw'; obtain ⟨i0, i1, i2, i3, i4⟩ := HC.out _ (below_step HX.out hw'); go_simp; try with_reducible rfl)
      try simp only [Act.put, List.setIfInBounds_toArray, List.set_cons_zero, List.set_cons_succ]
      refine' j_take (i := 9) (v := _) [] ?hi9 (by kernel_rfl) (by kernel_rfl) (by kernel_rfl) (by kernel_rfl) (by kernel_rfl) (Or.inl ⟨?hw9, ?hy9⟩) ?rest9
      case hi9 => (simp only [List.getElem?_toArray, List.getElem?_cons_succ, List.getElem?_cons_zero]; rfl)
      case hw9 => rfl
      case hy9 => (intro w' hw'; go_simp; try with_reducible rfl)
      try simp only [Act.put, List.setIfInBounds_toArray, List.set_cons_zero, List.set_cons_succ]
      refine' wpAnyJ_step (i := 6) (o := _) (by kernel_rfl) ?ho6 (fun K hK => ?step6)
      case ho6 => (simp only [List.getElem?_toArray, List.getElem?_cons_succ, List.getElem?_cons_zero]; rfl)
      go_simp
      refine (Calls.mono (HSG.out _) ?_); rintro e u1 ⟨rfl, gg⟩
      have HX := hide (below_step HX.out gg)
      refine hK.out _ _ gg (j_switch gg ?_)
      clear hK K gg
      try simp only [Act.put, List.setIfInBounds_toArray, List.set_cons_zero, List.set_cons_succ]
      refine' wpAnyJ_step (i := 7) (o := _) (by kernel_rfl) ?ho7 (fun K hK => ?step7)
      case ho7 => (simp only [List.getElem?_toArray, List.getElem?_cons_succ, List.getElem?_cons_zero]; rfl)
      go_simp
      have hal := below_alloc (Below.refl u1.heap.size u1) (.cells #[.int .u64 x.t, .int .u64 x.v, .int .u64 (signT x.x)] 28)
      have hz3 := heap_alloc_new u1 (.cells #[.int .u64 x.t, .int .u64 x.v, .int .u64 (signT x.x)] 28)
      have HX := hide (below_step HX.out hal)
      obtain ⟨g3, hg3⟩ : ∃ g3, u1.heap.size = g3 := ⟨_, rfl⟩
      obtain ⟨u3, hu3⟩ : ∃ u3, u1.alloc (.cells #[.int .u64 x.t, .int .u64 x.v, .int .u64 (signT x.x)] 28) = u3 := ⟨_, rfl⟩
      refine hK.out _ _ hal (j_switch hal ?_)
      clear hK K
      rw [hu3, hg3] at hz3
      rw [hu3] at HX
      try rw [hu3]
      try rw [hg3]
      have HZ3 := hide hz3
      clear hz3 hal hu3 hg3
      try simp only [Act.put, List.setIfInBounds_toArray, List.set_cons_zero, List.set_cons_succ]
      refine' j_take (i := 8) (v := _) [] ?hi8 (by kernel_rfl) (by kernel_rfl) (by kernel_rfl) (by kernel_rfl) (by kernel_rfl) (Or.inl ⟨?hw8, ?hy8⟩) ?rest8
      case hi8 => (simp only [List.getElem?_toArray, List.getElem?_cons_succ, List.getElem?_cons_zero]; rfl)
      case hw8 => rfl
      case hy8 => (intro w' hw'; go_simp; try with_reducible rfl)
      try simp only [Act.put, List.setIfInBounds_toArray, List.set_cons_zero, List.set_cons_succ]
      refine wpAnyJ_done (by kernel_rfl) ?_ _
      refine NoPanic.normal ?_
      go_upto_region 12 with fail
      have HOI := hide (OwnL.below HO5.out HX.out)
      have HBI := hide (below_step HB5.out HX.out)
      obtain ⟨ui, rfl⟩ : ∃ ui, ui = u3 := ⟨_, rfl⟩
      have hls : (X ++ [x.s % 256, x.k % 256]).length ≤ 80000 := by have := HRL.out; rw [List.length_append]; simp only [List.length_cons, List.length_nil]; omega
      have HIT : Hid (X ++ [x.s % 256, x.k % 256] ++ triT x 3 = X ++ itemT x) := hide (by unfold itemT; rw [List.append_assoc])
      generalize X ++ [x.s % 256, x.k % 256] = Y at *
      go_loopw [7, 47] (fun v i wr => ∃ j : Nat, j ≤ 3 ∧ i = .int .i64 j ∧ OwnL (one1 u8v) 1 5 w2.heap.size wr v (Y ++ triT x j) ∧ wr.heap[g3]? = some (.cells #[.int .u64 x.t, .int .u64 x.v, .int .u64 (signT x.x)] 28 (0, 0)) ∧ Below w2.heap.size w2 wr) (fun _ i _ => 3 - (intOf i).toNat)
      case atStart => exact ⟨0, by omega, rfl, by rw [show triT x 0 = [] from rfl, List.append_nil]; exact HOI.out, HZ3.out, HBI.out⟩
      case round =>
        obtain ⟨j, hj, rfl, ho2, hz, hb2⟩ := hrel
        clear HOI
        have HO := hide ho2
        have HBJ := hide hb2
        have HZJ := hide hz
        clear ho2
        by_cases hj3 : j < 3
        · have hjI : (j : Int) < 3 := by omega
          obtain ⟨q, hq0, hq1, hc, HN3⟩ : ∃ q : Int, 0 ≤ q ∧ q < 18446744073709551616 ∧ wr.cell? ⟨g3, j, none⟩ = some (.int .u64 q) ∧ Hid (triT x (j + 1) = triT x j ++ putT q) := by
            have h2 : j = 0 ∨ j = 1 ∨ j = 2 := by omega
            rcases h2 with rfl | rfl | rfl
            · exact ⟨x.t, ht.1, ht.2, (cell_of_row wr _ 0 _ _ _ hz).trans rfl, hide rfl⟩
            · exact ⟨x.v, hv.1, hv.2, (cell_of_row wr _ 1 _ _ _ hz).trans rfl, hide rfl⟩
            · exact ⟨signT x.x, hsg.1, hsg.2, (cell_of_row wr _ 2 _ _ _ hz).trans rfl, hide rfl⟩
          have hj33 := triT_len x j
          have HJL : Hid ((Y ++ triT x j).length ≤ 90000) := hide (by rw [List.length_append]; omega)
          obtain ⟨Z, hZ⟩ : ∃ Z, Y ++ triT x j = Z := ⟨_, rfl⟩
          have HZY := hide hZ
          rw [hZ] at HO HJL
          clear hZ
          clear hb2 hj33 hz
          obtain ⟨wc, rfl⟩ : ∃ wc, wc = wr := ⟨_, rfl⟩
          go_wp2_with fail
          refine (Calls.mono (putT_any none 0 [] q wc (by simp) RowAt.nil_ ⟨hq0, hq1⟩) ?_); rintro e w6 ⟨v6, rfl, ho6, hb6⟩
          rw [List.nil_append] at ho6
          obtain ⟨A6, c6, rfl, hr6, _, _⟩ := OwnL.vals ho6
          have HR6 := hide hr6
          have HO6 := hide (OwnL.below HO.out hb6)
          have HB6 := hide hb6
          have HW6 := hide (below_step HBJ.out hb6)
          have HZ6 := hide ((hb6.block _ (Array.getElem?_eq_some_iff.1 HZJ.out).1).trans HZJ.out)
          have hpl := putT_len q
          clear ho6 hr6 hb6 hc
          go_wp2_with (at_builtin; refine wpList_append_vals rfl (.tmp 51) (.tmp 53) 69 5 _ 1 rfl Try.underlying69 Try.infoU8t rfl (fun _ => rfl) (by omega) w2.heap.size _ Z rfl HO6.out A6 c6 (putT q) rfl HR6.out (by have := HJL.out; omega) HW6.out.size ?_; intro v7 w7 ho7 hg7)
          have HO7 := hide ho7
          have HB7 := hide (HW6.out.grown hg7 HW6.out.size (fun q hq => (OwnL.lt HO6.out q hq).1))
          have HZ7 := hide ((hg7.block _ (Array.getElem?_eq_some_iff.1 HZ6.out).1 (fun e => own_ne_ty HO6.out HZ6.out (by decide) e.symm)).trans HZ6.out)
          have HOO : Hid (OwnL (one1 u8v) 1 5 w2.heap.size w7 v7 (Y ++ triT x (j + 1))) := hide (by
            rw [HN3.out, ← List.append_assoc, HZY.out]
            exact HO7.out)
          clear ho7 hg7
          go_wp2_with fail
          go_roundw
          case rel => exact ⟨j + 1, by omega, by go_num, HOO.out, HZ7.out, HB7.out⟩
          case measure => simp only [intOf]; omega
        · obtain rfl : j = 3 := by omega
          have HO3 : Hid (OwnL (one1 u8v) 1 5 w2.heap.size wr u7 (rowT (L.take (k + 1)))) := hide (by rw [HXS.out, ← HIT.out]; exact HO.out)
          have HBF := hide HBJ.out
          clear hb2 hz
          go_wp2_with fail
          go_roundw
          case rel => exact ⟨k + 1, by omega, by go_num, HO3.out, HBF.out⟩
          case measure => simp only [intOf]; omega
    · obtain rfl : k = n := by omega
      have hkI : ¬ (k : Int) < (k : Int) := by omega
      have htk : L.take k = L := List.take_of_length_le (by rw [HN.out]; exact Nat.le_refl _)
      rw [htk] at HO
      obtain ⟨A7, c7, rfl, hr7, _, _⟩ := OwnL.vals HO.out
      have HR7 := hide hr7
      have HV := hide (OwnL.below HV2.out HB.out)
      have HBF := hide (below_step HB2.out HB.out)
      have hpl := putT_len (L.length : Int)
      have HRL : Hid ((rowT L).length ≤ 70000) := hide (by have := rowT_len L; rw [HN.out] at this; omega)
      clear hr7 htk
      go_wp2_with (at_builtin; refine wpList_append_vals rfl (.tmp 57) (.tmp 58) 69 5 _ 1 rfl Try.underlying69 Try.infoU8t rfl (fun _ => rfl) (by omega) w.heap.size _ (putT (L.length : Int)) rfl HV.out A7 c7 (rowT L) rfl HR7.out (by have := HRL.out; omega) HBF.out.size ?_; intro v8 w8 ho8 hg8)
      have HB8 := hide (HBF.out.grown hg8 HBF.out.size (fun q hq => (OwnL.lt HV.out q hq).1))
      refine bodyPost_ret (v := .tuple #[v8, .int .i64 0]) (by simp [results, Try.results34]) rfl ⟨v8, rfl, ?_, HB8.out⟩
      exact ho8
/-- What a leaf is. -/
def leafT (L : List It) : Int := if L.all goodB then hashL (itemsT L) else 0
theorem leafT_bd (L : List It) : 0 ≤ leafT L ∧ leafT L < 18446744073709551616 := by
  unfold leafT
  split
  · exact hashL_bd _
  · omega
set_option maxRecDepth 100000 in
set_option maxHeartbeats 1000000 in
theorem leaf_any (A : Option Addr) (c : Nat) (L : List It) (w : World) (hl : L.length ≤ 2000) (hL : ItemsAt w A L) (hW : ∀ x ∈ L, x.wf) :
    Calls Try.prog 28 #[.slice A L.length c] w fun e w' => e = .returned (.int .u64 (leafT L)) ∧ Below w.heap.size w w' := by
  cases hg : L.all goodB with
  | false =>
    have HV : Hid (leafT L = 0) := hide (by unfold leafT; rw [hg]; rfl)
    have HB := hide (bytes_bad A c L w hl hL hg)
    clear hL hW hg
    go_enter Try.func28, Try.ntmps28
    go_wp2_with fail
    refine (Calls.mono HB.out ?_); rintro e w1 ⟨rfl, hb⟩
    go_wp2_with fail
    go_ret
    exact ⟨by rw [HV.out]; rfl, hb⟩
  | true =>
    have HV : Hid (leafT L = hashL (itemsT L)) := hide (by unfold leafT; rw [hg]; rfl)
    have HB := hide (bytes_good A c L w hl hL hW hg)
    have HIB := hide (itemsT_b hW)
    clear hL hW hg
    go_enter Try.func28, Try.ntmps28
    go_wp2_with fail
    refine (Calls.mono HB.out ?_); rintro e w1 ⟨v, rfl, ho, hb⟩
    obtain ⟨A1, c1, rfl, hr, hc, hcm⟩ := OwnL.vals ho
    have HH := hide (hash_any A1 c1 (itemsT L) w1 (by unfold maxLen at hcm; omega) hr HIB.out)
    have HB1 := hide hb
    clear ho hb hr hc hcm HB
    go_wp2_with fail
    refine (Calls.mono HH.out ?_); rintro e w2 ⟨rfl, hb2⟩
    go_wp2_with fail
    go_ret
    exact ⟨by rw [HV.out]; rfl, below_step HB1.out hb2⟩
end Go.Proofs.Ythpbohheddkfiaa
