/- (*clepsydra/tree.Tree).fill: a contract. Conditions: the tree's rows as they lie. -/
import Derived.Test.YthpbohheddkfiaaTOf
namespace Go.Proofs.Ythpbohheddkfiaa
set_option linter.unusedVariables false
set_option linter.unusedSimpArgs false
open Go.ChangeShapes Go.WideShapes Go.ChangeAt Go.RowKit

theorem Try.infoU64t : (Try.prog.info? 28).map (fun i => (i.zero, i.size, i.bytes)) = some (some (.int .u64 0), 1, 8) := by kernel_rfl
abbrev u64t (n : Int) : Value := .int .u64 n
/-- A sum of a tree. -/
def nodeT (F : Nat → List It) : Nat → Nat → Int
  | 0, s => leafT (F s)
  | k + 1, i => mixL (nodeT F k (2 * i)) (nodeT F k (2 * i + 1))
theorem nodeT_bd (F : Nat → List It) : ∀ k i, 0 ≤ nodeT F k i ∧ nodeT F k i < 18446744073709551616
  | 0, s => leafT_bd _
  | k + 1, i => mixL_bd _ _
/-- The sums of a level, the first j of them. -/
def levT (F : Nat → List It) (k j : Nat) : List Int := (List.range j).map (nodeT F k)
theorem levT_snoc (F : Nat → List It) (k j : Nat) : levT F k (j + 1) = levT F k j ++ [nodeT F k j] := by unfold levT; rw [List.range_succ, List.map_append]; rfl
theorem levT_len (F : Nat → List It) (k j : Nat) : (levT F k j).length = j := by simp [levT]
/-- The sums below a level, and the first j of it. -/
def partT (F : Nat → List It) (l j : Nat) (k : Nat) : List Int := if k < l then levT F k (2 ^ (8 - k)) else if k = l then levT F l j else []
theorem partT_next (F : Nat → List It) (l : Nat) : ∀ k, partT F (l + 1) 0 k = partT F l (2 ^ (8 - l)) k := fun k => by
  unfold partT
  by_cases h1 : k < l
  · rw [if_pos (by omega), if_pos h1]
  · by_cases h2 : k = l
    · subst h2
      rw [if_pos (by omega), if_neg (by omega), if_pos rfl]
    · rw [if_neg (by omega), if_neg h1, if_neg h2]
      split
      · simp [levT]
      · rfl
theorem partT_grow (F : Nat → List It) (l j : Nat) : ∀ t, partT F l (j + 1) t = if t = l then partT F l j l ++ [nodeT F l j] else partT F l j t := fun t => by
  unfold partT
  by_cases h1 : t = l
  · subst h1
    rw [if_neg (by omega), if_pos rfl, if_pos rfl, if_neg (by omega), if_pos rfl, levT_snoc]
  · rw [if_neg h1, if_neg h1, if_neg h1]
theorem partT_at (F : Nat → List It) (l j : Nat) : partT F l j l = levT F l j := by
  unfold partT
  rw [if_neg (by omega), if_pos rfl]
theorem partT_below (F : Nat → List It) {l j k : Nat} (h : k < l) : partT F l j k = levT F k (2 ^ (8 - k)) := by
  unfold partT
  rw [if_pos h]
theorem step_app_u64 {ops : Array Oper} {o : Oper} {a : Act} {w : World} {K : Act → World → Prop} {Q : Exit → Act → World → Prop} {E : Prop} (hgd : o.guard = none) (s x : Operand)
    (ho : o.op = .call { callee := .builtin .append, args := #[s, x], argTypes := #[54, 54] }) (hty : o.type = 54)
    (base : Nat) (v : Value) (L : List Int) (hs : a.eval s = v) (hown : OwnL (one1 u64t) 1 28 base w v L) (A : Option Addr) (c m : Nat) (M : List Int) (hm : M.length = m) (hx : a.eval x = .slice A m c) (hr : ValsAt u64t w A M) (hn : L.length + m ≤ 2199023255552) (hbase : base ≤ w.heap.size)
    (h : ∀ v' w', OwnL (one1 u64t) 1 28 base w' v' (L ++ M) → w.grownBy w' v.ownBlock → (v'.ownBlock = v.ownBlock ∨ v'.ownBlock = some w.heap.size) → K (a.put o.dst v') w') : if Region.wanted o (yielded ops a.tmps) = true then Oper.wp Try.prog o a w K Q else E := by
  subst hm
  have hw : Region.wanted o (yielded ops a.tmps) = true := by simp [Region.wanted, hgd]
  rw [if_pos hw]
  obtain ⟨i0, hi, hz0, hz1, hz2⟩ := info_parts Try.infoU64t
  obtain ⟨v', w', hrun, h2, h3, h4⟩ := run_append_row (P := Try.prog) w base 54 o.type 28 i0 _ 1 8 Try.underlying54 hi hz0 hz1 hz2 rfl (by omega) (fun _ => rfl) v L hown A c M hr (none_row hr) (fun m _ u hu => by simp only [List.mem_singleton] at hu; subst hu; rfl) (by simp only [maxLen]; omega) (by omega) hbase
  unfold Oper.wp execOp
  simp only [ho, resolve, invoke, builtin, Sem.run_bind, Sem.run_pure, Result.andThen_ok, List.map_toArray, List.map_cons, List.map_nil, hs, hx, hrun]
  exact h v' w' h2 h3 h4
theorem loadRows {w : World} {b : Nat} {S U : Nat → Value} {d m : Int} (h : w.heap[b]? = some (.cells (treeL S d m U).toArray 57 (0, 0))) : (loadVar 41 ⟨b, 0, none⟩).run Try.prog w = .ok (.agg ((List.range 256).map S).toArray) w := by
  have hl := run_loadCells_list (P := Try.prog) w ⟨b, 0, none⟩ ((List.range 256).map S) (fun j v hv => by
    have hadd : (⟨b, 0, none⟩ : Addr).add j = ⟨b, j, none⟩ := by unfold Addr.add; split <;> simp_all
    rw [hadd, cell_of_list h]
    have hj : j < 256 := by have := (List.getElem?_eq_some_iff.1 hv).1; simpa using this
    rw [treeL_ser S d m U hj]
    simpa [hj] using hv)
  rw [show ((List.range 256).map S).length = 256 by simp] at hl
  have hi : (Try.prog.info? 41).map (·.size) = some 256 := by kernel_rfl
  cases hq : Try.prog.info? 41 with
  | none => rw [hq] at hi; cases hi
  | some i =>
    have hs : i.size = 256 := by rw [hq] at hi; exact Option.some.inj hi
    have hagg : (isAgg 41).run Try.prog w = .ok true w := by kernel_rfl
    simp [loadVar, Sem.run_bind, hagg, sizeOf, typeInfo, hq, hs, hl]
theorem Sets.grown {w w' : World} {row : Option Nat} (h : w.grownBy w' row) : Sets (fun c => row = some c) w w' := ⟨h.os, h.tape, h.output, h.size, fun i hi hs => h.block i hi (fun e => hs e.symm)⟩
theorem index_rows {w : World} {va : Array Value} {k : Nat} {v : Value} (hs : va.size = 256) (hk : k < 256) (hv : va[k]? = some v) : (Instr.index 41 (.agg va) (.int .i64 (k : Int))).run Try.prog w = .ok v w := by
  have hz : (sizeOf 22).run Try.prog w = .ok 1 w := by kernel_rfl
  have hag : (isAgg 22).run Try.prog w = .ok false w := by kernel_rfl
  have hk1 : (k : Int) < 256 := by omega
  have hk2 : ¬ 256 ≤ k := by omega
  simp [Instr.index, run_underlying Try.underlying41, asIntOf, hk1, hz, part, hag, hv, hk2]
theorem wp_load_val {o : Oper} {a : Act} {w : World} {K : Act → World → Prop} {Q : Exit → Act → World → Prop} (ty : TypeId) (x : Operand) (ho : o.op = .load ty x) (p : Addr) (hx : a.eval x = .pointer (some p)) {v : Value} (hr : (loadVar ty p).run Try.prog w = .ok v w) (h : K (a.put o.dst v) w) : Oper.wp Try.prog o a w K Q := by
  unfold Oper.wp execOp
  simp only [ho, hx, Instr.loadAt, Instr.sureAddr, Sem.run_bind, Sem.run_pure, Result.andThen_ok, hr]
  exact h
set_option maxRecDepth 100000 in
set_option maxHeartbeats 3200000 in
theorem fill_any {w : World} {b base0 : Nat} {S : Nat → Value} {d m : Int} {F : Nat → List It} (hbx : w.heap[b]? = some (.cells (treeL S d m nilS).toArray 57 (0, 0))) (hF : TreeR w base0 S F) (hb0 : b < base0) (hwf : ∀ s, s < 256 → ∀ x ∈ F s, x.wf) (hln : ∀ s, s < 256 → (F s).length ≤ 2000) :
    Calls Try.prog 20 #[.pointer (some ⟨b, 0, none⟩)] w fun e w' => e = .returned (.tuple #[]) ∧ ∃ U, w'.heap[b]? = some (.cells (treeL S d m U).toArray 57 (0, 0)) ∧ RowsR (one1 u64t) 1 28 9 w' w.heap.size U (partT F 9 0) ∧ Sets (fun g => g = b) w w' := by
  have hbl := (Array.getElem?_eq_some_iff.1 hbx).1
  have hld := loadRows hbx
  have HSV : Hid (∀ k : Nat, k < 256 → ∃ A c, S k = .slice A (F k).length c ∧ ((List.range 256).map S).toArray[k]? = some (.slice A (F k).length c) ∧ (∀ W : World, Sets (fun g => g = b) w W → ItemsAt W A (F k))) := hide (fun k hk => by
    obtain ⟨A, c, e, hr, hge, _⟩ := OwnL.row It.cells_len (hF.own k hk)
    refine ⟨A, c, e, by simp [hk, e], fun W hW => hr.sets hW (fun a ha hn e2 => ?_)⟩
    obtain ⟨g, o, s⟩ := a
    have := (hge g o s ha).1
    simp only at e2
    omega)
  obtain ⟨va, hva⟩ : ∃ va, ((List.range 256).map S).toArray = va := ⟨_, rfl⟩
  rw [hva] at hld HSV
  have hsz : va.size = 256 := by rw [← hva]; simp
  have HLN := hide hln
  have HWF := hide hwf
  have HBX0 := hide hbx
  have HSV0 := HSV
  obtain ⟨base, hbe⟩ : ∃ base, w.heap.size = base := ⟨_, rfl⟩
  have hbb : b < base := by omega
  have HBE := hide hbe
  rw [hbe]
  clear hF hln hwf hva hbe hb0 hbx
  go_enter Try.func20, Try.ntmps20
  go_upto_region 1 with fail
  refine wp_load_val 41 (.tmp 9) rfl ⟨b, 0, none⟩ rfl hld ?_
  go_upto_region 1 with fail
  clear hld
  go_loopw [11] (fun i wr => ∃ (k : Nat) (U : Nat → Value), k ≤ 256 ∧ i = .int .i64 k ∧ wr.heap[b]? = some (.cells (treeL S d m U).toArray 57 (0, 0)) ∧ RowsR (one1 u64t) 1 28 9 wr base U (partT F 0 k) ∧ Sets (fun g => g = b) w wr) (fun i _ => 256 - (intOf i).toNat)
  case atStart => exact ⟨0, nilS, by omega, rfl, HBX0.out, ⟨fun s _ => by
    have : partT F 0 0 s = [] := by unfold partT; rw [if_neg (by omega)]; split <;> rfl
    rw [this]
    exact OwnL.nil_ _ _ _ _ _, fun s t _ _ _ g h => by cases h⟩, Sets.refl _⟩
  case round =>
    obtain ⟨k, U, hk, rfl, hbx, hR, hsb⟩ := hrel
    have HBX := hide hbx
    have HR0 := hide hR
    have HSB := hide hsb
    have hbs : base ≤ wr.heap.size := by rw [← HBE.out]; exact hsb.size
    have hbl := (Array.getElem?_eq_some_iff.1 hbx).1
    clear hbx hR hsb
    by_cases hlt : k < 256
    · have hkI : (k : Int) < 256 := by omega
      have hk0 : (0 : Int) ≤ (k : Int) := by omega
      obtain ⟨A, c, _, hvk, HIT0⟩ := HSV.out k hlt
      have HIT := hide (HIT0 wr HSB.out)
      clear HIT0
      have HLF := hide (fun (W : World) (hW : Below wr.heap.size wr W) => leaf_any A c (F k) W (HLN.out k hlt) (HIT.out.below hW) (HWF.out k hlt))
      obtain ⟨y, hy⟩ : ∃ y, leafT (F k) = y := ⟨_, rfl⟩
      rw [hy] at HLF
      have HY := hide hy
      have HXL : Hid ((partT F 0 k 0).length = k) := hide (by unfold partT; rw [if_neg (by omega), if_pos rfl, levT_len])
      have HT : Hid (∀ W : World, Below wr.heap.size wr W → W.cell? ⟨b, 259, none⟩ = some (U 0)) := hide (fun W hW => (cell_of_list ((hW.block b hbl).trans HBX.out)).trans (treeL_sum S d m U (k := 0) (by omega)))
      clear hy
      have hix := fun W : World => index_rows (w := W) hsz hlt hvk
      go_upto_region 3 with fail
      refine j_startS [13] (S := (fun W : World => W.cell? ⟨b, 259, none⟩ = some (U 0))) (by kernel_rfl) ?_
      obtain ⟨ud, hud⟩ : ∃ ud, wr.drew = ud := ⟨_, rfl⟩
      have HUD : Hid (Below wr.heap.size wr ud) := hide (by rw [← hud]; exact (Below.refl _ _).drew)
      have HS : Hid ((fun W : World => W.cell? ⟨b, 259, none⟩ = some (U 0)) ud) := hide (HT.out _ HUD.out)
      rw [hud]
      clear hud
      refine' wpAnyJ_take (i := 0) (v := _) [10, 11, 12, 13] ?hi0n1 (by kernel_rfl) (by kernel_rfl) (by kernel_rfl) (by kernel_rfl) (by kernel_rfl) (Or.inl ⟨?hw0n1, ?hy0n1⟩) HS.out ?rest0n1
      case hi0n1 => (simp only [List.getElem?_toArray, List.getElem?_cons_succ, List.getElem?_cons_zero]; rfl)
      case hw0n1 => rfl
      case hy0n1 => (intro w' hw'; go_simp; try with_reducible rfl)
      try simp only [Act.put, List.setIfInBounds_toArray, List.set_cons_zero, List.set_cons_succ]
      refine' wpAnyJ_take (i := 1) (v := _) [2, 3, 4, 5, 9, 12, 13] ?hi1n2 (by kernel_rfl) (by kernel_rfl) (by kernel_rfl) (by kernel_rfl) (by kernel_rfl) (Or.inl ⟨?hw1n2, ?hy1n2⟩) HS.out ?rest1n2
      case hi1n2 => (simp only [List.getElem?_toArray, List.getElem?_cons_succ, List.getElem?_cons_zero]; rfl)
      case hw1n2 => rfl
      case hy1n2 => (intro w' hw'; go_simp; try with_reducible rfl)
      try simp only [Act.put, List.setIfInBounds_toArray, List.set_cons_zero, List.set_cons_succ]
      refine' wpAnyJ_take (i := 2) (v := _) [3, 4, 5, 9, 12, 13] ?hi2n3 (by kernel_rfl) (by kernel_rfl) (by kernel_rfl) (by kernel_rfl) (by kernel_rfl) (Or.inl ⟨?hw2n3, ?hy2n3⟩) HS.out ?rest2n3
      case hi2n3 => (simp only [List.getElem?_toArray, List.getElem?_cons_succ, List.getElem?_cons_zero]; rfl)
      case hw2n3 => rfl
      case hy2n3 => (intro w' hw'; go_simp; try with_reducible rfl)
      try simp only [Act.put, List.setIfInBounds_toArray, List.set_cons_zero, List.set_cons_succ]
      refine' wpAnyJ_take (i := 3) (v := _) [4, 5, 9, 12, 13] ?hi3n4 (by kernel_rfl) (by kernel_rfl) (by kernel_rfl) (by kernel_rfl) (by kernel_rfl) (Or.inl ⟨?hw3n4, ?hy3n4⟩) HS.out ?rest3n4
      case hi3n4 => (simp only [List.getElem?_toArray, List.getElem?_cons_succ, List.getElem?_cons_zero]; rfl)
      case hw3n4 => rfl
      case hy3n4 => (intro w' hw'; go_simp; try with_reducible rfl)
      try simp only [Act.put, List.setIfInBounds_toArray, List.set_cons_zero, List.set_cons_succ]
      refine' wpAnyJ_take (i := 4) (v := _) [5, 9, 12, 13] ?hi4n5 (by kernel_rfl) (by kernel_rfl) (by kernel_rfl) (by kernel_rfl) (by kernel_rfl) (Or.inl ⟨?hw4n5, ?hy4n5⟩) HS.out ?rest4n5
      case hi4n5 => (simp only [List.getElem?_toArray, List.getElem?_cons_succ, List.getElem?_cons_zero]; rfl)
      case hw4n5 => rfl
      case hy4n5 => (intro w' hw'; go_simp; try with_reducible rfl)
      try simp only [Act.put, List.setIfInBounds_toArray, List.set_cons_zero, List.set_cons_succ]
      refine' wpAnyJ_take (i := 5) (v := _) [9, 12, 13] ?hi5n6 (by kernel_rfl) (by kernel_rfl) (by kernel_rfl) (by kernel_rfl) (by kernel_rfl) (Or.inl ⟨?hw5n6, ?hy5n6⟩) HS.out ?rest5n6
      case hi5n6 => (simp only [List.getElem?_toArray, List.getElem?_cons_succ, List.getElem?_cons_zero]; rfl)
      case hw5n6 => rfl
      case hy5n6 => (intro w' hw'; have h0 : w'.cell? ⟨b, 259, none⟩ = some (U 0) := hw'; go_simp; try with_reducible rfl)
      try simp only [Act.put, List.setIfInBounds_toArray, List.set_cons_zero, List.set_cons_succ]
      refine' wpAnyJ_take (i := 6) (v := _) [7, 8, 9, 12, 13] ?hi6n7 (by kernel_rfl) (by kernel_rfl) (by kernel_rfl) (by kernel_rfl) (by kernel_rfl) (Or.inl ⟨?hw6n7, ?hy6n7⟩) HS.out ?rest6n7
      case hi6n7 => (simp only [List.getElem?_toArray, List.getElem?_cons_succ, List.getElem?_cons_zero]; rfl)
      case hw6n7 => rfl
      case hy6n7 => (intro w' hw'; go_simp; try with_reducible rfl)
      try simp only [Act.put, List.setIfInBounds_toArray, List.set_cons_zero, List.set_cons_succ]
      refine' wpAnyJ_take (i := 10) (v := _) [11, 12, 13] ?hi10n8 (by kernel_rfl) (by kernel_rfl) (by kernel_rfl) (by kernel_rfl) (by kernel_rfl) (Or.inl ⟨?hw10n8, ?hy10n8⟩) HS.out ?rest10n8
      case hi10n8 => (simp only [List.getElem?_toArray, List.getElem?_cons_succ, List.getElem?_cons_zero]; rfl)
      case hw10n8 => rfl
      case hy10n8 => (intro w' hw'; go_simp; try with_reducible rfl)
      try simp only [Act.put, List.setIfInBounds_toArray, List.set_cons_zero, List.set_cons_succ]
      refine' wpAnyJ_take (i := 11) (v := _) [12, 13] ?hi11n9 (by kernel_rfl) (by kernel_rfl) (by kernel_rfl) (by kernel_rfl) (by kernel_rfl) (Or.inl ⟨?hw11n9, ?hy11n9⟩) HS.out ?rest11n9
      case hi11n9 => (simp only [List.getElem?_toArray, List.getElem?_cons_succ, List.getElem?_cons_zero]; rfl)
      case hw11n9 => rfl
      case hy11n9 => (intro w' hw'; go_simp; try with_reducible rfl)
      try simp only [Act.put, List.setIfInBounds_toArray, List.set_cons_zero, List.set_cons_succ]
      refine' wpAnyJ_step (i := 7) (o := _) (by kernel_rfl) ?ho7n10 (fun K hK => ?step7n10)
      case ho7n10 => (simp only [List.getElem?_toArray, List.getElem?_cons_succ, List.getElem?_cons_zero]; rfl)
      go_simp
      refine (Calls.mono (HLF.out _ HUD.out) ?_); rintro e u1 ⟨rfl, gg⟩
      have HU := hide (below_step HUD.out gg)
      clear gg
      have HS : Hid ((fun W : World => W.cell? ⟨b, 259, none⟩ = some (U 0)) u1) := hide (HT.out _ HU.out)
      refine hK.out _ _ HS.out ?_
      clear hK K
      try simp only [Act.put, List.setIfInBounds_toArray, List.set_cons_zero, List.set_cons_succ]
      refine' wpAnyJ_step (i := 8) (o := _) (by kernel_rfl) ?ho8n11 (fun K hK => ?step8n11)
      case ho8n11 => (simp only [List.getElem?_toArray, List.getElem?_cons_succ, List.getElem?_cons_zero]; rfl)
      go_simp
      have hal := below_alloc (Below.refl u1.heap.size u1) (.cells #[.int .u64 y] 28)
      have HXX : Hid (ValsAt u64t (u1.alloc (.cells #[.int .u64 y] 28)) (some ⟨u1.heap.size, 0, none⟩) [y]) := hide (vals_of_block (L := [y]) (heap_alloc_new u1 (.cells #[.int .u64 y] 28)))
      have HU := hide (below_step HU.out hal)
      obtain ⟨gx, hgx⟩ : ∃ gx, u1.heap.size = gx := ⟨_, rfl⟩
      rw [hgx] at HXX
      try rw [hgx]
      obtain ⟨u2, hu2⟩ : ∃ u2, u1.alloc (.cells #[.int .u64 y] 28) = u2 := ⟨_, rfl⟩
      rw [hu2] at HXX HU
      try rw [hu2]
      have HS : Hid ((fun W : World => W.cell? ⟨b, 259, none⟩ = some (U 0)) u2) := hide (HT.out _ HU.out)
      clear hal hgx hu2
      refine hK.out _ _ HS.out ?_
      clear hK K
      try simp only [Act.put, List.setIfInBounds_toArray, List.set_cons_zero, List.set_cons_succ]
      refine' wpAnyJ_step (i := 9) (o := _) (by kernel_rfl) ?ho9n12 (fun K hK => ?step9n12)
      case ho9n12 => (simp only [List.getElem?_toArray, List.getElem?_cons_succ, List.getElem?_cons_zero]; rfl)
      refine step_app_u64 rfl (.tmp 19) (.tmp 22) rfl rfl base (U 0) (partT F 0 k 0) rfl ((HR0.out.below HU.out).own 0 (by omega)) (some ⟨gx, 0, none⟩) 1 1 [y] rfl rfl HXX.out (by rw [HXL.out]; omega) (Nat.le_trans hbs HU.out.size) ?_
      intro v2 u3 ho2 hg2 hm2
      obtain ⟨A2, c2, rfl, _, _⟩ := OwnL.vals ho2
      have hl2 : (partT F 0 k 0 ++ [y]).length = k + 1 := by rw [List.length_append, HXL.out]; rfl
      rw [hl2] at ho2 hm2 ⊢
      obtain ⟨v2, hv2⟩ : ∃ v2, Value.slice A2 (k + 1) c2 = v2 := ⟨_, rfl⟩
      have HV2 := hide hv2
      rw [hv2] at ho2 hm2
      have HR2 := hide ((HR0.out.below HU.out).grow (s := 0) (by omega) ho2 hg2 hm2)
      have hkp : ∀ j, (U 0).ownBlock = some j → base ≤ j := fun j hj => (OwnL.lt ((HR0.out.below HU.out).own 0 (by omega)) j hj).1
      have HB2 := hide ((hg2.block b (Nat.lt_of_lt_of_le hbl HU.out.size) (fun e => by have := hkp b e.symm; omega)).trans ((HU.out.block b hbl).trans HBX.out))
      have HS : Hid ((fun W : World => W.cell? ⟨b, 259, none⟩ = some (U 0)) u3) := hide ((cell_of_list HB2.out).trans (treeL_sum S d m U (k := 0) (by omega)))
      have HZ2 : Hid (u3.frozen? ⟨b, 259, none⟩ = false) := hide (by simp [World.frozen?, HB2.out])
      have HW2 := hide ((HSB.out.trans (Sets.of (S := fun _ => False) HU.out) (fun _ _ h => h.elim)).trans (Sets.grown hg2) (fun q hq e => absurd hq (by have := hkp q e; have := HBE.out; omega)))
      clear ho2 hg2 hm2 hkp hv2
      refine hK.out _ _ HS.out ?_
      clear hK K
      try simp only [Act.put, List.setIfInBounds_toArray, List.set_cons_zero, List.set_cons_succ]
      refine' wpAnyJ_take (i := 12) (v := _) [13] ?hi12n13 (by kernel_rfl) (by kernel_rfl) (by kernel_rfl) (by kernel_rfl) (by kernel_rfl) (Or.inl ⟨?hw12n13, ?hy12n13⟩) HS.out ?rest12n13
      case hi12n13 => (simp only [List.getElem?_toArray, List.getElem?_cons_succ, List.getElem?_cons_zero]; rfl)
      case hw12n13 => rfl
      case hy12n13 => (intro w' hw'; go_simp; try with_reducible rfl)
      try simp only [Act.put, List.setIfInBounds_toArray, List.set_cons_zero, List.set_cons_succ]
      refine' wpAnyJ_last (i := 13) (o := _) (by kernel_rfl) ?ho13n14 (by kernel_rfl) (fun K hK => ?step13n14)
      case ho13n14 => (simp only [List.getElem?_toArray, List.getElem?_cons_succ, List.getElem?_cons_zero]; rfl)
      have z1 := HZ2.out
      have z2 : u3.cell? ⟨b, 259, none⟩ = some (U 0) := HS.out
      go_simp
      rw [HV2.out]
      refine hK.out _ _ ?_
      clear hK K z1 z2
      try simp only [Act.put, List.setIfInBounds_toArray, List.set_cons_zero, List.set_cons_succ]
      refine wpAnyJ_done (by kernel_rfl) ?_ _
      refine NoPanic.normal ?_
      have HB3 : Hid ((u3.setCell ⟨b, 259, none⟩ v2).heap[b]? = some (.cells (treeL S d m (updV U 0 v2)).toArray 57 (0, 0))) := hide (by
        rw [← treeL_setU S d m U (k := 0) (by omega) v2]
        exact set_of_list HB2.out v2)
      have HR3 : Hid (RowsR (one1 u64t) 1 28 9 (u3.setCell ⟨b, 259, none⟩ v2) base (updV U 0 v2) (partT F 0 (k + 1))) := hide ((HR2.out.setFar hbb v2).alike (fun t _ => by rw [partT_grow, ← HY.out]; rfl))
      have HW3 := hide (HW2.out.set (g := b) (fun _ => rfl) 259 v2)
      go_wp2_with fail
      go_roundw
      case rel => exact ⟨k + 1, updV U 0 v2, by omega, by go_num, HB3.out, HR3.out, HW3.out⟩
      case measure => simp only [intOf]; omega
    · obtain rfl : k = 256 := by omega
      have HR4 : Hid (RowsR (one1 u64t) 1 28 9 wr base U (partT F 1 0)) := hide (HR0.out.alike (fun t _ => partT_next F 0 t))
      have HBX4 := HBX
      have HSB4 := HSB
      clear HR0 HBX HSB hbl
      obtain ⟨wm, rfl⟩ : ∃ wm, wm = wr := ⟨_, rfl⟩
      go_upto_region 6 with fail
      go_loopw [4] (fun i wr => ∃ (l : Nat) (V : Nat → Value), 1 ≤ l ∧ l ≤ 9 ∧ i = .int .i64 l ∧ wr.heap[b]? = some (.cells (treeL S d m V).toArray 57 (0, 0)) ∧ RowsR (one1 u64t) 1 28 9 wr base V (partT F l 0) ∧ Sets (fun g => g = b) w wr) (fun i _ => 9 - (intOf i).toNat)
      case atStart => exact ⟨1, U, by omega, by omega, rfl, HBX4.out, HR4.out, HSB4.out⟩
      case round =>
        obtain ⟨l, V, hl1, hl9, rfl, hbx, hR, hsb⟩ := hrel
        clear HBX4 HSB4 HR4 hbs
        by_cases hl8 : l ≤ 8
        · have hlI : (l : Int) ≤ 8 := by omega
          obtain ⟨q, hq⟩ : ∃ q, l = q + 1 := ⟨l - 1, by omega⟩
          have hlq : IntKind.i64.wrap ((l : Int) - 1) = (q : Int) := by rw [IntKind.wrap_i64]; omega
          have hq0 : (0 : Int) ≤ (q : Int) := by omega
          have hq9 : (q : Int) < 9 := by omega
          obtain ⟨h, hh⟩ : ∃ h, 2 ^ (8 - l) = h := ⟨_, rfl⟩
          have hh2 : 2 ^ (8 - q) = 2 * h := by rw [← hh, show 8 - q = (8 - l) + 1 by omega, Nat.pow_succ]; omega
          have hh3 : h ≤ 128 ∧ 1 ≤ h := by
            rw [← hh]
            exact ⟨Nat.le_trans (Nat.pow_le_pow_right (by omega) (show 8 - l ≤ 7 by omega)) (by decide), Nat.one_le_two_pow⟩
          have hrq := hR.own q (by omega)
          rw [partT_below F (by omega), hh2] at hrq
          obtain ⟨Aq, cq, eq, hvq, hcq, hcqm⟩ := OwnL.vals hrq
          rw [levT_len] at eq hcq
          obtain ⟨g, oq, rfl, hgl0, _⟩ := RowAt.one hvq (Below.refl _ _) (k := 0) (by rw [levT_len]; omega)
          have hcell := (cell_of_list hbx).trans (treeL_sum S d m V (k := q) (by omega))
          rw [eq] at hcell
          have HQV := hide eq
          have HROW := hide hvq
          have HHE := hide hh
          have HR0 := hide hR
          have HBX0 := hide hbx
          have HSB0 := hide hsb
          have HNG0 : Hid (∀ v : Value, v.ownBlock = some g → (V q).ownBlock = some g) := hide (fun _ _ => by
            rcases hrq.2 with ⟨e0, hl0⟩ | ⟨g', cap, cur, ev, _⟩
            · rw [e0] at eq; cases eq
            · rw [ev] at eq; injection eq with e1 e2 e3; injection e1 with e1; injection e1 with e1 e2; subst e1; rw [ev]; rfl)
          have hbl := (Array.getElem?_eq_some_iff.1 hbx).1
          have h2I : ((2 * h : Nat) : Int) = ((2 * h : Nat) : Int) := rfl
          have HHQ := hide hh2
          obtain ⟨n2, hn2⟩ : ∃ n2, 2 * h = n2 := ⟨_, rfl⟩
          rw [hn2] at hcell
          have HN2 : Hid (2 ^ (8 - q) = n2) := hide (hh2.trans hn2)
          have hql : q < l := by omega
          have HQ := hide hq
          clear hR hbx hsb hrq eq hvq hh hh2 hcqm h2I hq
          obtain ⟨wm, rfl⟩ : ∃ wm, wm = wr := ⟨_, rfl⟩
          go_upto_region 10 with fail
          go_loopw [6] (fun i wr => ∃ (j : Nat) (Z : Nat → Value), j ≤ h ∧ i = .int .i64 ((2 * j : Nat) : Int) ∧ wr.heap[b]? = some (.cells (treeL S d m Z).toArray 57 (0, 0)) ∧ RowsR (one1 u64t) 1 28 9 wr base Z (partT F l j) ∧ (∀ k, k ≠ l → Z k = V k) ∧ Sets (fun g => g = b) w wr) (fun i _ => 2 * h - (intOf i).toNat)
          case atStart => exact ⟨0, V, by omega, rfl, HBX0.out, HR0.out, fun _ _ => rfl, HSB0.out⟩
          case round =>
            obtain ⟨j, Z, hj, rfl, hbx, hR, hzv, hsb⟩ := hrel
            clear HR0 HBX0 HSB0 hbl hcell
            have hbs : base ≤ wr.heap.size := by rw [← HBE.out]; exact hsb.size
            have hbl := (Array.getElem?_eq_some_iff.1 hbx).1
            have HR1 := hide hR
            have HBX1 := hide hbx
            have HSB1 := hide hsb
            have HZV := hide hzv
            obtain ⟨j2, hj2⟩ : ∃ j2, 2 * j = j2 := ⟨_, rfl⟩
            rw [hj2]
            by_cases hlt : j < h
            · have hrq := hR.own q (by omega)
              rw [partT_below F (show q < l by omega), hzv q (by omega), HQV.out] at hrq
              obtain ⟨Aq, cq', eq, hvq, _, _⟩ := OwnL.vals hrq
              have eA : some (⟨g, oq, none⟩ : Addr) = Aq := by injection eq
              subst eA
              have hlen2 : (levT F q (2 ^ (8 - q))).length = n2 := by rw [levT_len]; exact HN2.out
              obtain ⟨_, _, e1, hgl, c1⟩ := RowAt.one hvq (Below.refl _ _) (k := j2) (by rw [hlen2]; omega)
              obtain ⟨_, _, e2, _, c2⟩ := RowAt.one hvq (Below.refl _ _) (k := j2 + 1) (by rw [hlen2]; omega)
              injection e1 with e1
              injection e1 with e1a e1b
              subst e1a e1b
              injection e2 with e2
              injection e2 with e2a e2b
              subst e2a e2b
              have hv1 : (levT F q (2 ^ (8 - q)))[j2]'(by rw [hlen2]; omega) = nodeT F q j2 := by simp [levT]
              have hv2 : (levT F q (2 ^ (8 - q)))[j2 + 1]'(by rw [hlen2]; omega) = nodeT F q (j2 + 1) := by simp [levT]
              rw [hv1] at c1
              rw [hv2] at c2
              have HY : Hid (nodeT F l j = mixL (nodeT F q j2) (nodeT F q (j2 + 1))) := hide (by rw [HQ.out, ← hj2]; rfl)
              have HMX := hide (fun W => mix_any (nodeT F q j2) (nodeT F q (j2 + 1)) W (nodeT_bd F q j2) (nodeT_bd F q (j2 + 1)))
              rw [← HY.out] at HMX
              obtain ⟨y, hy⟩ : ∃ y, nodeT F l j = y := ⟨_, rfl⟩
              rw [hy] at HMX
              have HYE := hide hy
              have HNG : Hid ((Z l).ownBlock ≠ some g) := hide (fun e => hR.apart l q (by omega) (by omega) (by omega) g e (by rw [hzv q (by omega)]; exact HNG0.out (.slice (some ⟨g, 0, none⟩) 0 0) rfl))
              have HXL : Hid ((partT F l j l).length = j) := hide (by rw [partT_at, levT_len])
              generalize nodeT F q j2 = ya at *
              generalize nodeT F q (j2 + 1) = yb at *
              obtain ⟨o1, ho1⟩ : ∃ o1, oq + j2 = o1 := ⟨_, rfl⟩
              obtain ⟨o2, ho2⟩ : ∃ o2, oq + (j2 + 1) = o2 := ⟨_, rfl⟩
              rw [ho1] at c1
              rw [ho2] at c2
              have HT : Hid (∀ W : World, Below wr.heap.size wr W → W.cell? ⟨b, 259 + l, none⟩ = some (Z l) ∧ W.cell? ⟨g, o1, none⟩ = some (.int .u64 ya) ∧ W.cell? ⟨g, o2, none⟩ = some (.int .u64 yb)) := hide (fun W hW => ⟨(cell_of_list ((hW.block b hbl).trans HBX1.out)).trans (treeL_sum S d m Z (k := l) (by omega)), keep_cell hW c1 hgl, keep_cell hW c2 hgl⟩)
              have hjI : (j2 : Int) < (n2 : Int) := by have := HN2.out; have := HHQ.out; omega
              have hj0 : (0 : Int) ≤ (j2 : Int) := by omega
              have hjw : IntKind.i64.wrap ((j2 : Int) + 1) = ((j2 + 1 : Nat) : Int) := by rw [IntKind.wrap_i64]; omega
              have hj1I : ((j2 + 1 : Nat) : Int) < (n2 : Int) := by have := HN2.out; have := HHQ.out; omega
              have hj10 : (0 : Int) ≤ ((j2 + 1 : Nat) : Int) := by omega
              have hj11 : (0 : Int) ≤ (j2 : Int) + 1 := by omega
              have hj12 : (j2 : Int) + 1 < (n2 : Int) := by omega
              have hl0 : (0 : Int) ≤ (l : Int) := by omega
              have hl9I : (l : Int) < 9 := by omega
              obtain ⟨wj, rfl⟩ : ∃ wj, wj = wr := ⟨_, rfl⟩
              clear hrq hvq hlen2 hv1 hv2 c1 c2 hR hbx hsb hzv hy eq
              go_upto_region 12 with fail
              refine j_startS [23] (S := (fun W : World => W.cell? ⟨b, 259 + l, none⟩ = some (Z l) ∧ W.cell? ⟨g, o1, none⟩ = some (.int .u64 ya) ∧ W.cell? ⟨g, o2, none⟩ = some (.int .u64 yb))) (by kernel_rfl) ?_
              obtain ⟨ud, hud⟩ : ∃ ud, wj.drew = ud := ⟨_, rfl⟩
              have HUD : Hid (Below wj.heap.size wj ud) := hide (by rw [← hud]; exact (Below.refl _ _).drew)
              have HS : Hid ((fun W : World => W.cell? ⟨b, 259 + l, none⟩ = some (Z l) ∧ W.cell? ⟨g, o1, none⟩ = some (.int .u64 ya) ∧ W.cell? ⟨g, o2, none⟩ = some (.int .u64 yb)) ud) := hide (HT.out _ HUD.out)
              rw [hud]
              clear hud
              refine' wpAnyJ_take (i := 0) (v := _) [20, 21, 22, 23] ?hi0n1b (by kernel_rfl) (by kernel_rfl) (by kernel_rfl) (by kernel_rfl) (by kernel_rfl) (Or.inl ⟨?hw0n1b, ?hy0n1b⟩) HS.out ?rest0n1b
              case hi0n1b => (simp only [List.getElem?_toArray, List.getElem?_cons_succ, List.getElem?_cons_zero]; rfl)
              case hw0n1b => rfl
              case hy0n1b => (intro w' hw'; go_simp; try with_reducible rfl)
              try simp only [Act.put, List.setIfInBounds_toArray, List.set_cons_zero, List.set_cons_succ]
              refine' wpAnyJ_take (i := 1) (v := _) [22, 23] ?hi1n2b (by kernel_rfl) (by kernel_rfl) (by kernel_rfl) (by kernel_rfl) (by kernel_rfl) (Or.inl ⟨?hw1n2b, ?hy1n2b⟩) HS.out ?rest1n2b
              case hi1n2b => (simp only [List.getElem?_toArray, List.getElem?_cons_succ, List.getElem?_cons_zero]; rfl)
              case hw1n2b => rfl
              case hy1n2b => (intro w' hw'; go_simp; try with_reducible rfl)
              try simp only [Act.put, List.setIfInBounds_toArray, List.set_cons_zero, List.set_cons_succ]
              refine' wpAnyJ_take (i := 2) (v := _) [4, 5, 6, 7, 19, 22, 23] ?hi2n3b (by kernel_rfl) (by kernel_rfl) (by kernel_rfl) (by kernel_rfl) (by kernel_rfl) (Or.inl ⟨?hw2n3b, ?hy2n3b⟩) HS.out ?rest2n3b
              case hi2n3b => (simp only [List.getElem?_toArray, List.getElem?_cons_succ, List.getElem?_cons_zero]; rfl)
              case hw2n3b => rfl
              case hy2n3b => (intro w' hw'; go_simp; try with_reducible rfl)
              try simp only [Act.put, List.setIfInBounds_toArray, List.set_cons_zero, List.set_cons_succ]
              refine' wpAnyJ_take (i := 3) (v := _) [6, 7, 19, 22, 23] ?hi3n4b (by kernel_rfl) (by kernel_rfl) (by kernel_rfl) (by kernel_rfl) (by kernel_rfl) (Or.inl ⟨?hw3n4b, ?hy3n4b⟩) HS.out ?rest3n4b
              case hi3n4b => (simp only [List.getElem?_toArray, List.getElem?_cons_succ, List.getElem?_cons_zero]; rfl)
              case hw3n4b => rfl
              case hy3n4b => (intro w' hw'; go_simp; try with_reducible rfl)
              try simp only [Act.put, List.setIfInBounds_toArray, List.set_cons_zero, List.set_cons_succ]
              refine' wpAnyJ_take (i := 4) (v := _) [5, 6, 7, 19, 22, 23] ?hi4n5b (by kernel_rfl) (by kernel_rfl) (by kernel_rfl) (by kernel_rfl) (by kernel_rfl) (Or.inl ⟨?hw4n5b, ?hy4n5b⟩) HS.out ?rest4n5b
              case hi4n5b => (simp only [List.getElem?_toArray, List.getElem?_cons_succ, List.getElem?_cons_zero]; rfl)
              case hw4n5b => rfl
              case hy4n5b => (intro w' hw'; go_simp; try with_reducible rfl)
              try simp only [Act.put, List.setIfInBounds_toArray, List.set_cons_zero, List.set_cons_succ]
              refine' wpAnyJ_take (i := 5) (v := _) [6, 7, 19, 22, 23] ?hi5n6b (by kernel_rfl) (by kernel_rfl) (by kernel_rfl) (by kernel_rfl) (by kernel_rfl) (Or.inl ⟨?hw5n6b, ?hy5n6b⟩) HS.out ?rest5n6b
              case hi5n6b => (simp only [List.getElem?_toArray, List.getElem?_cons_succ, List.getElem?_cons_zero]; rfl)
              case hw5n6b => rfl
              case hy5n6b => (intro w' hw'; go_simp; try with_reducible rfl)
              try simp only [Act.put, List.setIfInBounds_toArray, List.set_cons_zero, List.set_cons_succ]
              refine' wpAnyJ_take (i := 6) (v := _) [7, 19, 22, 23] ?hi6n7b (by kernel_rfl) (by kernel_rfl) (by kernel_rfl) (by kernel_rfl) (by kernel_rfl) (Or.inl ⟨?hw6n7b, ?hy6n7b⟩) HS.out ?rest6n7b
              case hi6n7b => (simp only [List.getElem?_toArray, List.getElem?_cons_succ, List.getElem?_cons_zero]; rfl)
              case hw6n7b => rfl
              case hy6n7b => (intro w' hw'; go_simp; try with_reducible rfl)
              try simp only [Act.put, List.setIfInBounds_toArray, List.set_cons_zero, List.set_cons_succ]
              refine' wpAnyJ_take (i := 7) (v := _) [19, 22, 23] ?hi7n8b (by kernel_rfl) (by kernel_rfl) (by kernel_rfl) (by kernel_rfl) (by kernel_rfl) (Or.inl ⟨?hw7n8b, ?hy7n8b⟩) HS.out ?rest7n8b
              case hi7n8b => (simp only [List.getElem?_toArray, List.getElem?_cons_succ, List.getElem?_cons_zero]; rfl)
              case hw7n8b => rfl
              case hy7n8b => (intro w' hw'; have h0 : w'.cell? ⟨b, 259 + l, none⟩ = some (Z l) := hw'.1; go_simp; try with_reducible rfl)
              try simp only [Act.put, List.setIfInBounds_toArray, List.set_cons_zero, List.set_cons_succ]
              refine' wpAnyJ_take (i := 8) (v := _) [10, 11, 17, 18, 19, 22, 23] ?hi8n9b (by kernel_rfl) (by kernel_rfl) (by kernel_rfl) (by kernel_rfl) (by kernel_rfl) (Or.inl ⟨?hw8n9b, ?hy8n9b⟩) HS.out ?rest8n9b
              case hi8n9b => (simp only [List.getElem?_toArray, List.getElem?_cons_succ, List.getElem?_cons_zero]; rfl)
              case hw8n9b => rfl
              case hy8n9b => (intro w' hw'; go_simp; try with_reducible rfl)
              try simp only [Act.put, List.setIfInBounds_toArray, List.set_cons_zero, List.set_cons_succ]
              refine' wpAnyJ_take (i := 9) (v := _) [10, 11, 17, 18, 19, 22, 23] ?hi9n10b (by kernel_rfl) (by kernel_rfl) (by kernel_rfl) (by kernel_rfl) (by kernel_rfl) (Or.inl ⟨?hw9n10b, ?hy9n10b⟩) HS.out ?rest9n10b
              case hi9n10b => (simp only [List.getElem?_toArray, List.getElem?_cons_succ, List.getElem?_cons_zero]; rfl)
              case hw9n10b => rfl
              case hy9n10b => (intro w' hw'; go_simp; try with_reducible rfl)
              try simp only [Act.put, List.setIfInBounds_toArray, List.set_cons_zero, List.set_cons_succ]
              refine' wpAnyJ_take (i := 10) (v := _) [11, 17, 18, 19, 22, 23] ?hi10n11b (by kernel_rfl) (by kernel_rfl) (by kernel_rfl) (by kernel_rfl) (by kernel_rfl) (Or.inl ⟨?hw10n11b, ?hy10n11b⟩) HS.out ?rest10n11b
              case hi10n11b => (simp only [List.getElem?_toArray, List.getElem?_cons_succ, List.getElem?_cons_zero]; rfl)
              case hw10n11b => rfl
              case hy10n11b => (intro w' hw'; go_simp; try with_reducible rfl)
              try simp only [Act.put, List.setIfInBounds_toArray, List.set_cons_zero, List.set_cons_succ]
              refine' wpAnyJ_take (i := 11) (v := _) [17, 18, 19, 22, 23] ?hi11n12b (by kernel_rfl) (by kernel_rfl) (by kernel_rfl) (by kernel_rfl) (by kernel_rfl) (Or.inl ⟨?hw11n12b, ?hy11n12b⟩) HS.out ?rest11n12b
              case hi11n12b => (simp only [List.getElem?_toArray, List.getElem?_cons_succ, List.getElem?_cons_zero]; rfl)
              case hw11n12b => rfl
              case hy11n12b => (intro w' hw'; have h0 : w'.cell? ⟨g, o1, none⟩ = some (.int .u64 ya) := hw'.2.1; go_simp; try with_reducible rfl)
              try simp only [Act.put, List.setIfInBounds_toArray, List.set_cons_zero, List.set_cons_succ]
              refine' wpAnyJ_take (i := 12) (v := _) [15, 16, 17, 18, 19, 22, 23] ?hi12n13b (by kernel_rfl) (by kernel_rfl) (by kernel_rfl) (by kernel_rfl) (by kernel_rfl) (Or.inl ⟨?hw12n13b, ?hy12n13b⟩) HS.out ?rest12n13b
              case hi12n13b => (simp only [List.getElem?_toArray, List.getElem?_cons_succ, List.getElem?_cons_zero]; rfl)
              case hw12n13b => rfl
              case hy12n13b => (intro w' hw'; go_simp; try with_reducible rfl)
              try simp only [Act.put, List.setIfInBounds_toArray, List.set_cons_zero, List.set_cons_succ]
              refine' wpAnyJ_take (i := 13) (v := _) [14, 15, 16, 17, 18, 19, 22, 23] ?hi13n14b (by kernel_rfl) (by kernel_rfl) (by kernel_rfl) (by kernel_rfl) (by kernel_rfl) (Or.inl ⟨?hw13n14b, ?hy13n14b⟩) HS.out ?rest13n14b
              case hi13n14b => (simp only [List.getElem?_toArray, List.getElem?_cons_succ, List.getElem?_cons_zero]; rfl)
              case hw13n14b => rfl
              case hy13n14b => (intro w' hw'; go_simp; try with_reducible rfl)
              try simp only [Act.put, List.setIfInBounds_toArray, List.set_cons_zero, List.set_cons_succ]
              refine' wpAnyJ_take (i := 14) (v := _) [15, 16, 17, 18, 19, 22, 23] ?hi14n15b (by kernel_rfl) (by kernel_rfl) (by kernel_rfl) (by kernel_rfl) (by kernel_rfl) (Or.inl ⟨?hw14n15b, ?hy14n15b⟩) HS.out ?rest14n15b
              case hi14n15b => (simp only [List.getElem?_toArray, List.getElem?_cons_succ, List.getElem?_cons_zero]; rfl)
              case hw14n15b => rfl
              case hy14n15b => (intro w' hw'; go_simp; try with_reducible rfl)
              try simp only [Act.put, List.setIfInBounds_toArray, List.set_cons_zero, List.set_cons_succ]
              refine' wpAnyJ_take (i := 15) (v := _) [16, 17, 18, 19, 22, 23] ?hi15n16b (by kernel_rfl) (by kernel_rfl) (by kernel_rfl) (by kernel_rfl) (by kernel_rfl) (Or.inl ⟨?hw15n16b, ?hy15n16b⟩) HS.out ?rest15n16b
              case hi15n16b => (simp only [List.getElem?_toArray, List.getElem?_cons_succ, List.getElem?_cons_zero]; rfl)
              case hw15n16b => rfl
              case hy15n16b => (intro w' hw'; go_simp; try with_reducible rfl)
              try simp only [Act.put, List.setIfInBounds_toArray, List.set_cons_zero, List.set_cons_succ]
              refine' wpAnyJ_take (i := 16) (v := _) [17, 18, 19, 22, 23] ?hi16n17b (by kernel_rfl) (by kernel_rfl) (by kernel_rfl) (by kernel_rfl) (by kernel_rfl) (Or.inl ⟨?hw16n17b, ?hy16n17b⟩) HS.out ?rest16n17b
              case hi16n17b => (simp only [List.getElem?_toArray, List.getElem?_cons_succ, List.getElem?_cons_zero]; rfl)
              case hw16n17b => rfl
              case hy16n17b => (intro w' hw'; have h0 : w'.cell? ⟨g, o2, none⟩ = some (.int .u64 yb) := hw'.2.2; go_simp; try with_reducible rfl)
              try simp only [Act.put, List.setIfInBounds_toArray, List.set_cons_zero, List.set_cons_succ]
              refine' wpAnyJ_take (i := 20) (v := _) [21, 22, 23] ?hi20n18b (by kernel_rfl) (by kernel_rfl) (by kernel_rfl) (by kernel_rfl) (by kernel_rfl) (Or.inl ⟨?hw20n18b, ?hy20n18b⟩) HS.out ?rest20n18b
              case hi20n18b => (simp only [List.getElem?_toArray, List.getElem?_cons_succ, List.getElem?_cons_zero]; rfl)
              case hw20n18b => rfl
              case hy20n18b => (intro w' hw'; go_simp; try with_reducible rfl)
              try simp only [Act.put, List.setIfInBounds_toArray, List.set_cons_zero, List.set_cons_succ]
              refine' wpAnyJ_take (i := 21) (v := _) [22, 23] ?hi21n19b (by kernel_rfl) (by kernel_rfl) (by kernel_rfl) (by kernel_rfl) (by kernel_rfl) (Or.inl ⟨?hw21n19b, ?hy21n19b⟩) HS.out ?rest21n19b
              case hi21n19b => (simp only [List.getElem?_toArray, List.getElem?_cons_succ, List.getElem?_cons_zero]; rfl)
              case hw21n19b => rfl
              case hy21n19b => (intro w' hw'; go_simp; try with_reducible rfl)
              try simp only [Act.put, List.setIfInBounds_toArray, List.set_cons_zero, List.set_cons_succ]
              refine' wpAnyJ_step (i := 17) (o := _) (by kernel_rfl) ?ho17n20b (fun K hK => ?step17n20b)
              case ho17n20b => (simp only [List.getElem?_toArray, List.getElem?_cons_succ, List.getElem?_cons_zero]; rfl)
              go_simp
              refine (Calls.mono (HMX.out _) ?_); rintro e u1 ⟨rfl, gg⟩
              have HU := hide (below_step HUD.out gg)
              clear gg
              have HS : Hid ((fun W : World => W.cell? ⟨b, 259 + l, none⟩ = some (Z l) ∧ W.cell? ⟨g, o1, none⟩ = some (.int .u64 ya) ∧ W.cell? ⟨g, o2, none⟩ = some (.int .u64 yb)) u1) := hide (HT.out _ HU.out)
              refine hK.out _ _ HS.out ?_
              clear hK K
              try simp only [Act.put, List.setIfInBounds_toArray, List.set_cons_zero, List.set_cons_succ]
              refine' wpAnyJ_step (i := 18) (o := _) (by kernel_rfl) ?ho18n21b (fun K hK => ?step18n21b)
              case ho18n21b => (simp only [List.getElem?_toArray, List.getElem?_cons_succ, List.getElem?_cons_zero]; rfl)
              go_simp
              have hal := below_alloc (Below.refl u1.heap.size u1) (.cells #[.int .u64 y] 28)
              have HXX : Hid (ValsAt u64t (u1.alloc (.cells #[.int .u64 y] 28)) (some ⟨u1.heap.size, 0, none⟩) [y]) := hide (vals_of_block (L := [y]) (heap_alloc_new u1 (.cells #[.int .u64 y] 28)))
              have HU := hide (below_step HU.out hal)
              obtain ⟨gx, hgx⟩ : ∃ gx, u1.heap.size = gx := ⟨_, rfl⟩
              rw [hgx] at HXX
              try rw [hgx]
              obtain ⟨u2, hu2⟩ : ∃ u2, u1.alloc (.cells #[.int .u64 y] 28) = u2 := ⟨_, rfl⟩
              rw [hu2] at HXX HU
              try rw [hu2]
              have HS : Hid ((fun W : World => W.cell? ⟨b, 259 + l, none⟩ = some (Z l) ∧ W.cell? ⟨g, o1, none⟩ = some (.int .u64 ya) ∧ W.cell? ⟨g, o2, none⟩ = some (.int .u64 yb)) u2) := hide (HT.out _ HU.out)
              clear hal hgx hu2
              refine hK.out _ _ HS.out ?_
              clear hK K
              try simp only [Act.put, List.setIfInBounds_toArray, List.set_cons_zero, List.set_cons_succ]
              refine' wpAnyJ_step (i := 19) (o := _) (by kernel_rfl) ?ho19n22b (fun K hK => ?step19n22b)
              case ho19n22b => (simp only [List.getElem?_toArray, List.getElem?_cons_succ, List.getElem?_cons_zero]; rfl)
              refine step_app_u64 rfl (.tmp 52) (.tmp 63) rfl rfl base (Z l) (partT F l j l) rfl ((HR1.out.below HU.out).own l (by omega)) (some ⟨gx, 0, none⟩) 1 1 [y] rfl rfl HXX.out (by rw [HXL.out]; omega) (Nat.le_trans hbs HU.out.size) ?_
              intro v2 u3 ho2 hg2 hm2
              obtain ⟨A2, c2, rfl, _, _⟩ := OwnL.vals ho2
              have hl2 : (partT F l j l ++ [y]).length = j + 1 := by rw [List.length_append, HXL.out]; rfl
              rw [hl2] at ho2 hm2 ⊢
              obtain ⟨v2, hv2⟩ : ∃ v2, Value.slice A2 (j + 1) c2 = v2 := ⟨_, rfl⟩
              have HV2 := hide hv2
              rw [hv2] at ho2 hm2
              have HR2 := hide ((HR1.out.below HU.out).grow (s := l) (by omega) ho2 hg2 hm2)
              have hkp : ∀ j, (Z l).ownBlock = some j → base ≤ j := fun j hj => (OwnL.lt ((HR1.out.below HU.out).own l (by omega)) j hj).1
              have HB2 := hide ((hg2.block b (Nat.lt_of_lt_of_le hbl HU.out.size) (fun e => by have := hkp b e.symm; omega)).trans ((HU.out.block b hbl).trans HBX1.out))
              have hgg := hg2.block g (Nat.lt_of_lt_of_le hgl HU.out.size) (fun e => HNG.out e.symm)
              have HS : Hid ((fun W : World => W.cell? ⟨b, 259 + l, none⟩ = some (Z l) ∧ W.cell? ⟨g, o1, none⟩ = some (.int .u64 ya) ∧ W.cell? ⟨g, o2, none⟩ = some (.int .u64 yb)) u3) := hide ⟨(cell_of_list HB2.out).trans (treeL_sum S d m Z (k := l) (by omega)), (World.cell?_of_block hgg).trans HS.out.2.1, (World.cell?_of_block hgg).trans HS.out.2.2⟩
              have HZ2 : Hid (u3.frozen? ⟨b, 259 + l, none⟩ = false) := hide (by simp [World.frozen?, HB2.out])
              have HW2 := hide ((HSB1.out.trans (Sets.of (S := fun _ => False) HU.out) (fun _ _ h => h.elim)).trans (Sets.grown hg2) (fun q hq e => absurd hq (by have := hkp q e; have := HBE.out; omega)))
              clear ho2 hg2 hm2 hkp hv2 hgg
              refine hK.out _ _ HS.out ?_
              clear hK K
              try simp only [Act.put, List.setIfInBounds_toArray, List.set_cons_zero, List.set_cons_succ]
              refine' wpAnyJ_take (i := 22) (v := _) [23] ?hi22n23b (by kernel_rfl) (by kernel_rfl) (by kernel_rfl) (by kernel_rfl) (by kernel_rfl) (Or.inl ⟨?hw22n23b, ?hy22n23b⟩) HS.out ?rest22n23b
              case hi22n23b => (simp only [List.getElem?_toArray, List.getElem?_cons_succ, List.getElem?_cons_zero]; rfl)
              case hw22n23b => rfl
              case hy22n23b => (intro w' hw'; go_simp; try with_reducible rfl)
              try simp only [Act.put, List.setIfInBounds_toArray, List.set_cons_zero, List.set_cons_succ]
              refine' wpAnyJ_last (i := 23) (o := _) (by kernel_rfl) ?ho23n24b (by kernel_rfl) (fun K hK => ?step23n24b)
              case ho23n24b => (simp only [List.getElem?_toArray, List.getElem?_cons_succ, List.getElem?_cons_zero]; rfl)
              have z1 := HZ2.out
              have z2 : u3.cell? ⟨b, 259 + l, none⟩ = some (Z l) := HS.out.1
              go_simp
              rw [HV2.out]
              refine hK.out _ _ ?_
              clear hK K z1 z2
              try simp only [Act.put, List.setIfInBounds_toArray, List.set_cons_zero, List.set_cons_succ]
              refine wpAnyJ_done (by kernel_rfl) ?_ _
              refine NoPanic.normal ?_
              have HB3 : Hid ((u3.setCell ⟨b, 259 + l, none⟩ v2).heap[b]? = some (.cells (treeL S d m (updV Z l v2)).toArray 57 (0, 0))) := hide (by
                rw [← treeL_setU S d m Z (k := l) (by omega) v2]
                exact set_of_list HB2.out v2)
              have HR3 : Hid (RowsR (one1 u64t) 1 28 9 (u3.setCell ⟨b, 259 + l, none⟩ v2) base (updV Z l v2) (partT F l (j + 1))) := hide ((HR2.out.setFar hbb v2).alike (fun t _ => by rw [partT_grow, HYE.out]))
              have HW3 := hide (HW2.out.set (g := b) (fun _ => rfl) (259 + l) v2)
              have hj2w : IntKind.i64.wrap ((j2 : Int) + 2) = ((2 * (j + 1) : Nat) : Int) := by rw [IntKind.wrap_i64]; omega
              have HJ2 := hide hj2
              have hjm : (((2 * (j + 1) : Nat) : Int)).toNat = j2 + 2 := by omega
              go_wp2_with fail
              go_roundw
              case rel => exact ⟨j + 1, by omega, by first | rfl | (rw [hj2w]) | omega, updV Z l v2, HB3.out, HR3.out, fun k hk => (updV_ne hk).trans (HZV.out k hk), HW3.out⟩
              case measure => simp only [intOf]; omega
            · obtain rfl : j = h := by omega
              have hjI : ¬ (j2 : Int) < (n2 : Int) := by have := HN2.out; have := HHQ.out; omega
              have HR6 : Hid (RowsR (one1 u64t) 1 28 9 wr base Z (partT F (l + 1) 0)) := hide (HR1.out.alike (fun t _ => by rw [partT_next, HHE.out]))
              clear hR hbx hsb hzv
              go_wp2_with fail
              go_roundw
              case rel => exact ⟨l + 1, Z, by omega, by omega, by go_num, HBX1.out, HR6.out, HSB1.out⟩
              case measure => simp only [intOf]; omega
        · obtain rfl : l = 9 := by omega
          have HR5 := hide hR
          have HBX5 := hide hbx
          have HSB5 := hide hsb
          clear hR hbx hsb
          go_wp2_with fail
          go_end0
          exact ⟨rfl, V, HBX5.out, HR5.out, HSB5.out⟩
end Go.Proofs.Ythpbohheddkfiaa
