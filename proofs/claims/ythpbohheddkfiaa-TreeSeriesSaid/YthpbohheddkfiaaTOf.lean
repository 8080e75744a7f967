/- clepsydra/tree.Of: a contract. Conditions: readable items. -/
import Derived.Test.YthpbohheddkfiaaTBytes
import Derived.Test.YthpbohheddkfiaaSkS
import Derived.Test.YthpbohheddkfiaaSets
namespace Go.Proofs.Ythpbohheddkfiaa
set_option linter.unusedVariables false
set_option linter.unusedSimpArgs false
open Go.ChangeShapes Go.WideShapes Go.ChangeAt Go.RowKit
theorem j_startS {P : Program} {ops : Array Oper} {Q : Exit → Act → World → Prop} (F : List Nat) {S : World → Prop} {id : Nat} {a : Act} {w : World} (hm : P.follows .mixedOrders = true) (h : wpAnyJ P .any ops (NoPanic Q) F S ops.size (Array.replicate ops.size false) a w.drew) : (Code.region id ops true).wp P Q a w :=
  wp_region_noPanic (wp_region_any hm (wpAny_of_J _ _ _ _ h))
/-- A tree's block: the rows of its series, whether it is summed, its sums. -/
def treeL (S : Nat → Value) (d m : Int) (U : Nat → Value) : List Value := (List.range 256).map S ++ [.int .u32 d, .int .i32 m, .int .u32 0] ++ (List.range 9).map U
def nilS : Nat → Value := fun _ => .slice none 0 0
theorem zeroTree (w : World) : (zeroValue 57).run Try.prog w = .ok (.agg (treeL nilS 0 0 nilS).toArray) w := by kernel_rfl
/-- One place of a function turned. -/
def updV (S : Nat → Value) (s : Nat) (v : Value) : Nat → Value := fun t => if t = s then v else S t
theorem updV_same {S : Nat → Value} {s : Nat} {v : Value} : updV S s v s = v := by simp [updV]
theorem updV_ne {S : Nat → Value} {s t : Nat} {v : Value} (h : t ≠ s) : updV S s v t = S t := by simp [updV, h]
theorem treeL_len (S : Nat → Value) (d m : Int) (U : Nat → Value) : (treeL S d m U).length = 268 := by simp [treeL]
theorem treeL_ser (S : Nat → Value) (d m : Int) (U : Nat → Value) {s : Nat} (hs : s < 256) : (treeL S d m U)[s]? = some (S s) := by
  unfold treeL
  rw [List.append_assoc, List.getElem?_append_left (by simpa using hs)]
  simp [hs]
theorem treeL_sum (S : Nat → Value) (d m : Int) (U : Nat → Value) {k : Nat} (hk : k < 9) : (treeL S d m U)[259 + k]? = some (U k) := by
  unfold treeL
  rw [List.getElem?_append_right (by simp)]
  simp [hk]
theorem treeL_one (S : Nat → Value) (d m : Int) (U : Nat → Value) : (treeL S d m U)[256]? = some (.int .u32 d) ∧ (treeL S d m U)[257]? = some (.int .i32 m) ∧ (treeL S d m U)[258]? = some (.int .u32 0) := by
  unfold treeL
  refine ⟨?_, ?_, ?_⟩ <;> (rw [List.append_assoc, List.getElem?_append_right (by simp)]; simp)
theorem range_upd (S : Nat → Value) (n s : Nat) (v : Value) : ((List.range n).map S).set s v = (List.range n).map (updV S s v) := by
  apply List.ext_getElem?
  intro i
  by_cases hi : i < n
  · by_cases e : s = i
    · subst e
      rw [List.getElem?_set_self (by simpa using hi)]
      simp [hi, updV]
    · rw [List.getElem?_set_ne e]
      simp [hi, updV, Ne.symm e]
  · rw [List.getElem?_eq_none (by simp; omega), List.getElem?_eq_none (by simp; omega)]
theorem treeL_setS (S : Nat → Value) (d m : Int) (U : Nat → Value) {s : Nat} (hs : s < 256) (v : Value) : (treeL S d m U).set s v = treeL (updV S s v) d m U := by
  unfold treeL
  rw [List.append_assoc, List.set_append_left _ _ (by simpa using hs), range_upd, List.append_assoc]
theorem treeL_setU (S : Nat → Value) (d m : Int) (U : Nat → Value) {k : Nat} (hk : k < 9) (v : Value) : (treeL S d m U).set (259 + k) v = treeL S d m (updV U k v) := by
  unfold treeL
  rw [List.set_append_right _ _ (by simp)]
  simp only [List.length_append, List.length_map, List.length_range, List.length_cons, List.length_nil]
  rw [show 259 + k - (256 + (0 + 1 + 1 + 1)) = k by omega, range_upd]
theorem treeL_setM (S : Nat → Value) (d m m' : Int) (U : Nat → Value) : (treeL S d m U).set 257 (.int .i32 m') = treeL S d m' U := by
  unfold treeL
  rw [List.append_assoc, List.set_append_right _ _ (by simp), List.append_assoc]
  simp
theorem treeL_setD (S : Nat → Value) (d m d' : Int) (U : Nat → Value) : (treeL S d m U).set 256 (.int .u32 d') = treeL S d' m U := by
  unfold treeL
  rw [List.append_assoc, List.set_append_right _ _ (by simp), List.append_assoc]
  simp
theorem cell_of_list {w : World} {b o : Nat} {l : List Value} {t : TypeId} {fr : Nat × Nat} (h : w.heap[b]? = some (.cells l.toArray t fr)) : w.cell? ⟨b, o, none⟩ = l[o]? := (cell_of_row w b o _ _ _ h).trans (by simp)
theorem set_of_list {w : World} {b o : Nat} {l : List Value} {t : TypeId} {fr : Nat × Nat} (h : w.heap[b]? = some (.cells l.toArray t fr)) (v : Value) : (w.setCell ⟨b, o, none⟩ v).heap[b]? = some (.cells (l.set o v).toArray t fr) := by
  simp [World.setCell, Array.getElem?_modify, h]
/-- Which items are of a series. -/
def serL (L : List It) (s : Nat) : List It := L.filter fun x => decide (x.s = (s : Int))
theorem serL_snoc (L : List It) (x : It) (s : Nat) : serL (L ++ [x]) s = if x.s = (s : Int) then serL L s ++ [x] else serL L s := by
  unfold serL
  rw [List.filter_append, List.filter_cons]
  by_cases h : x.s = (s : Int)
  · simp [h]
  · simp [h]
theorem serL_le (L : List It) (s : Nat) : (serL L s).length ≤ L.length := List.length_filter_le _ _
/-- Rows of one's own, each in a block of its own. -/
structure RowsR {α : Type} (cells : α → List Value) (sz : Nat) (e : TypeId) (n : Nat) (w : World) (base : Nat) (S : Nat → Value) (F : Nat → List α) : Prop where
  own : ∀ s, s < n → OwnL cells sz e base w (S s) (F s)
  apart : ∀ s t, s < n → t < n → s ≠ t → ∀ g, (S s).ownBlock = some g → (S t).ownBlock ≠ some g
section
variable {α : Type} {cells : α → List Value} {sz : Nat} {e : TypeId} {n : Nat}
theorem RowsR.below {w w' : World} {base : Nat} {S : Nat → Value} {F : Nat → List α} (h : RowsR cells sz e n w base S F) (hb : Below w.heap.size w w') : RowsR cells sz e n w' base S F := ⟨fun s hs => OwnL.below (h.own s hs) hb, h.apart⟩
theorem RowsR.setFar {w : World} {base : Nat} {S : Nat → Value} {F : Nat → List α} (h : RowsR cells sz e n w base S F) {b o : Nat} (hb : b < base) (v : Value) : RowsR cells sz e n (w.setCell ⟨b, o, none⟩ v) base S F := ⟨fun s hs => OwnL.setFar (h.own s hs) (fun e => by have := (OwnL.lt (h.own s hs) _ e).1; omega) _, h.apart⟩
theorem RowsR.alike {w : World} {base : Nat} {S : Nat → Value} {F G : Nat → List α} (h : RowsR cells sz e n w base S F) (he : ∀ s, s < n → G s = F s) : RowsR cells sz e n w base S G := ⟨fun s hs => by rw [he s hs]; exact h.own s hs, h.apart⟩
/-- One row has grown. -/
theorem RowsR.grow {w w' : World} {base : Nat} {S : Nat → Value} {F : Nat → List α} (h : RowsR cells sz e n w base S F) {s : Nat} (hs : s < n) {v : Value} {N : List α} (ho : OwnL cells sz e base w' v N) (hg : w.grownBy w' (S s).ownBlock) (hm : v.ownBlock = (S s).ownBlock ∨ v.ownBlock = some w.heap.size) :
    RowsR cells sz e n w' base (updV S s v) (fun t => if t = s then N else F t) := by
  refine ⟨fun t ht => ?_, fun t r ht hr hne g hg1 hg2 => ?_⟩
  · by_cases e : t = s
    · subst e
      rw [updV_same, if_pos rfl]
      exact ho
    · rw [updV_ne e, if_neg e]
      refine OwnL.kept (h.own t ht) hg ?_
      cases hb : (S t).ownBlock with
      | none => exact .inl rfl
      | some g => exact .inr (fun e2 => h.apart t s ht hs e g hb e2.symm)
  · have key : ∀ t, t < n → t ≠ s → ∀ g, v.ownBlock = some g → (S t).ownBlock ≠ some g := fun t ht hts g hv he => by
      rcases hm with e | e
      · rw [e] at hv
        exact h.apart t s ht hs hts g he hv
      · rw [e] at hv
        obtain rfl := Option.some.inj hv
        have := (OwnL.lt (h.own t ht) _ he).2
        omega
    by_cases e1 : t = s
    · subst e1
      rw [updV_same] at hg1
      rw [updV_ne (Ne.symm hne)] at hg2
      exact key r hr (Ne.symm hne) g hg1 hg2
    · rw [updV_ne e1] at hg1
      by_cases e2 : r = s
      · subst e2
        rw [updV_same] at hg2
        exact key t ht hne g hg2 hg1
      · rw [updV_ne e2] at hg2
        exact h.apart t r ht hr hne g hg1 hg2
end
/-- The rows of a tree's series. -/
abbrev TreeR (w : World) (base : Nat) (S : Nat → Value) (F : Nat → List It) : Prop := RowsR It.cells 5 33 256 w base S F
theorem step_app_itm {ops : Array Oper} {o : Oper} {a : Act} {w : World} {K : Act → World → Prop} {Q : Exit → Act → World → Prop} {E : Prop} (hgd : o.guard = none) (s x : Operand)
    (ho : o.op = .call { callee := .builtin .append, args := #[s, x], argTypes := #[22, 22] }) (hty : o.type = 22)
    (base : Nat) (v : Value) (L : List It) (hs : a.eval s = v) (hown : Ow base w v L) (A : Option Addr) (c m : Nat) (M : List It) (hm : M.length = m) (hx : a.eval x = .slice A m c) (hr : ItemsAt w A M) (hn : L.length + m ≤ 2199023255552) (hbase : base ≤ w.heap.size)
    (h : ∀ v' w', Ow base w' v' (L ++ M) → w.grownBy w' v.ownBlock → (v'.ownBlock = v.ownBlock ∨ v'.ownBlock = some w.heap.size) → K (a.put o.dst v') w') : if Region.wanted o (yielded ops a.tmps) = true then Oper.wp Try.prog o a w K Q else E := by
  subst hm
  have hw : Region.wanted o (yielded ops a.tmps) = true := by simp [Region.wanted, hgd]
  rw [if_pos hw]
  obtain ⟨i0, hi, hz0, hz1, hz2⟩ := info_parts Try.infoItem
  obtain ⟨v', w', hrun, h2, h3, h4⟩ := run_append_row (P := Try.prog) w base 22 o.type 33 i0 _ 5 40 Try.underlying22 hi hz0 hz1 hz2 rfl (by omega) It.cells_len v L hown A c M hr (none_row hr) (fun m _ => It.cells_one m) (by simp only [maxLen]; omega) (by omega) hbase
  unfold Oper.wp execOp
  simp only [ho, resolve, invoke, builtin, Sem.run_bind, Sem.run_pure, Result.andThen_ok, List.map_toArray, List.map_cons, List.map_nil, hs, hx, hrun]
  exact h v' w' h2 h3 h4
/-- A tree whose sums nobody asked. -/
structure TreeN (w0 w : World) (b : Nat) (F : Nat → List It) : Prop where
  row : ∃ S, w.heap[b]? = some (.cells (treeL S 0 0 nilS).toArray 57 (0, 0)) ∧ TreeR w (b + 1) S F
  low : Below w0.heap.size w0 w
  old : w0.heap.size ≤ b
set_option maxRecDepth 100000 in
set_option maxHeartbeats 3200000 in
theorem tof_any (A : Option Addr) (c : Nat) (L : List It) (w : World) (hl : L.length ≤ 2000) (hL : ItemsAt w A L) :
    Calls Try.prog 7 #[.slice A L.length c] w fun e w' => ∃ b, e = .returned (.pointer (some ⟨b, 0, none⟩)) ∧ TreeN w w' b (serL L) := by
  have hz := zeroTree
  have hbx := heap_alloc_new w (.cells (treeL nilS 0 0 nilS).toArray 57)
  have hba := below_alloc (Below.refl w.heap.size w) (.cells (treeL nilS 0 0 nilS).toArray 57)
  have HZT := hide (rfl : treeL nilS 0 0 nilS = treeL nilS 0 0 nilS)
  obtain ⟨zt, hzt⟩ : ∃ zt, treeL nilS 0 0 nilS = zt := ⟨_, rfl⟩
  rw [hzt] at hz hbx hba
  obtain ⟨wb, hwb⟩ : ∃ wb, w.alloc (.cells zt.toArray 57) = wb := ⟨_, rfl⟩
  rw [hwb] at hbx hba
  obtain ⟨b, hgb⟩ : ∃ b, w.heap.size = b := ⟨_, rfl⟩
  rw [hgb] at hbx
  rw [← hzt] at hbx
  have HBX0 := hide hbx
  have HBA := hide hba
  have HWB := hide hwb
  have HGB := hide hgb
  have HR := hide hL
  clear hbx hba hwb hgb hL hzt HZT
  go_enter Try.func7, Try.ntmps7
  go_upto_region 2 with fail
  try rw [HWB.out]
  try rw [HGB.out]
  clear HWB hz
  obtain ⟨n, hn⟩ : ∃ n, L.length = n := ⟨_, rfl⟩
  rw [hn] at hl ⊢
  have HN := hide hn
  clear hn
  go_upto_region 3 with fail
  go_loopw [10] (fun i wr => ∃ (k : Nat) (S : Nat → Value), k ≤ n ∧ i = .int .i64 k ∧ wr.heap[b]? = some (.cells (treeL S 0 0 nilS).toArray 57 (0, 0)) ∧ TreeR wr (b + 1) S (serL (L.take k)) ∧ Below w.heap.size w wr) (fun i _ => n - (intOf i).toNat)
  case atStart => exact ⟨0, nilS, by omega, rfl, HBX0.out, ⟨fun s _ => OwnL.nil_ _ _ _ _ _, fun s t _ _ _ g h => by cases h⟩, HBA.out⟩
  case round =>
    obtain ⟨k, S, hk, rfl, hbx, hF, hb⟩ := hrel
    have HF0 := hide hF
    have HB := hide hb
    have HBX0 := hide hbx
    clear hF
    by_cases hlt : k < n
    · have hkL : k < L.length := by rw [HN.out]; exact hlt
      have hkI : (k : Int) < (n : Int) := by omega
      obtain ⟨g, off, rfl, hgl, y0, y1, y2, y3, y4⟩ := HR.out.item hb hkL
      have HXS : Hid (∀ s, serL (L.take (k + 1)) s = if (L[k]'hkL).s = (s : Int) then serL (L.take k) s ++ [L[k]'hkL] else serL (L.take k) s) := hide (fun s => by rw [take_snoc hkL, serL_snoc])
      have HFLA : Hid (∀ s, (serL (L.take k) s).length ≤ 2000) := hide (fun s => by have := serL_le (L.take k) s; have h2 : (L.take k).length ≤ k := List.length_take_le _ _; omega)
      generalize L[k]'hkL = x at *
      obtain ⟨F, hF⟩ : ∃ F, serL (L.take k) = F := ⟨_, rfl⟩
      rw [hF] at HF0
      have HFE := hide hF
      clear hF hbx hb
      have eb := heap_alloc_new wr (.cells #[.int .i64 x.s, .int .i64 x.k, .int .u64 x.t, .int .u64 x.v, .int .i64 x.x] 33)
      have hba := below_alloc (Below.refl wr.heap.size wr) (.cells #[.int .i64 x.s, .int .i64 x.k, .int .u64 x.t, .int .u64 x.v, .int .i64 x.x] 33)
      go_upto_region 5 with fail
      obtain ⟨gb, hgb⟩ : ∃ gb, wr.heap.size = gb := ⟨_, rfl⟩
      obtain ⟨wr2, hwa⟩ : ∃ wa, wr.alloc (.cells #[.int .i64 x.s, .int .i64 x.k, .int .u64 x.t, .int .u64 x.v, .int .i64 x.x] 33) = wa := ⟨_, rfl⟩
      have HFR : Hid (TreeR wr2 (b + 1) S F) := hide (HF0.out.below (by rw [← hwa]; exact hba))
      have HBA2 : Hid (Below w.heap.size w wr2) := hide (below_step HB.out (by rw [← hwa]; exact hba))
      have HBX2 := hide ((hba.block b (Array.getElem?_eq_some_iff.1 HBX0.out).1).trans HBX0.out)
      rw [hwa] at eb HBX2 ⊢
      rw [hgb] at eb ⊢
      have HEB := hide eb
      obtain ⟨a0, a1, a2, a3, a4⟩ := it_cells5 eb
      have lgb := (Array.getElem?_eq_some_iff.1 eb).1
      have hbl := (Array.getElem?_eq_some_iff.1 HBX2.out).1
      have HGN : Hid (∀ s, s < 256 → ∀ g, (S s).ownBlock = some g → g ≠ gb) := hide (fun s hs g hg e => by have := (OwnL.lt (HF0.out.own s hs) g hg).2; omega)
      have HGBW : Hid (w.heap.size = b) := HGB
      clear y0 y1 y2 y3 y4 hgb hwa hba HF0 HB HBX0 hgl eb
      by_cases hin : 0 ≤ x.s ∧ x.s < 256
      · obtain ⟨s, hss⟩ : ∃ s : Nat, x.s = (s : Int) := ⟨x.s.toNat, by omega⟩
        have hs : s < 256 := by omega
        have hs0 : (0 : Int) ≤ (s : Int) := by omega
        have hs1 : (s : Int) < 256 := by omega
        have hsD : decide ((s : Int) < 256) = true := decide_eq_true hs1
        have HSS := hide hss
        rw [hss] at a0 ⊢
        have HC : Hid (∀ W : World, Below wr2.heap.size wr2 W → W.cell? ⟨gb, 0, none⟩ = some (.int .i64 (s : Int)) ∧ W.cell? ⟨gb, 1, none⟩ = some (.int .i64 x.k) ∧ W.cell? ⟨gb, 2, none⟩ = some (.int .u64 x.t) ∧ W.cell? ⟨gb, 3, none⟩ = some (.int .u64 x.v) ∧ W.cell? ⟨gb, 4, none⟩ = some (.int .i64 x.x)) := hide (fun W hW => ⟨keep_cell hW a0 lgb, keep_cell hW a1 lgb, keep_cell hW a2 lgb, keep_cell hW a3 lgb, keep_cell hW a4 lgb⟩)
        have HF : Hid (∀ W : World, Below wr2.heap.size wr2 W → TreeR W (b + 1) S F) := hide (fun W hW => HFR.out.below hW)
        have HBX : Hid (∀ W : World, Below wr2.heap.size wr2 W → W.heap[b]? = some (.cells (treeL S 0 0 nilS).toArray 57 (0, 0))) := hide (fun W hW => (hW.block b hbl).trans HBX2.out)
        have HT : Hid (∀ W : World, Below wr2.heap.size wr2 W → W.cell? ⟨b, s, none⟩ = some (S s)) := hide (fun W hW => (cell_of_list (HBX.out W hW)).trans (treeL_ser S 0 0 nilS hs))
        have HFL : Hid (∀ j, (F s).length + j ≤ 2000 + j) := hide (fun j => by have := HFLA.out s; rw [HFE.out] at this; omega)
        clear hin hss
        go_upto_region 6 with fail
        clear a0 a1 a2 a3 a4
        refine j_startS [16] (S := (fun W : World => (W.cell? ⟨gb, 0, none⟩ = some (.int .i64 (s : Int)) ∧ W.cell? ⟨gb, 1, none⟩ = some (.int .i64 x.k) ∧ W.cell? ⟨gb, 2, none⟩ = some (.int .u64 x.t) ∧ W.cell? ⟨gb, 3, none⟩ = some (.int .u64 x.v) ∧ W.cell? ⟨gb, 4, none⟩ = some (.int .i64 x.x)) ∧ W.cell? ⟨b, s, none⟩ = some (S s))) (by kernel_rfl) ?_
        obtain ⟨ud, hud⟩ : ∃ ud, wr2.drew = ud := ⟨_, rfl⟩
        have HUD : Hid (Below wr2.heap.size wr2 ud) := hide (by rw [← hud]; exact (Below.refl _ _).drew)
        have HS : Hid ((fun W : World => (W.cell? ⟨gb, 0, none⟩ = some (.int .i64 (s : Int)) ∧ W.cell? ⟨gb, 1, none⟩ = some (.int .i64 x.k) ∧ W.cell? ⟨gb, 2, none⟩ = some (.int .u64 x.t) ∧ W.cell? ⟨gb, 3, none⟩ = some (.int .u64 x.v) ∧ W.cell? ⟨gb, 4, none⟩ = some (.int .i64 x.x)) ∧ W.cell? ⟨b, s, none⟩ = some (S s)) ud) := hide ⟨HC.out _ HUD.out, HT.out _ HUD.out⟩
        rw [hud]
        clear hud
        refine' wpAnyJ_take (i := 0) (v := _) [13, 14, 15, 16] ?hi0n1 (by kernel_rfl) (by kernel_rfl) (by kernel_rfl) (by kernel_rfl) (by kernel_rfl) (Or.inl ⟨?hw0n1, ?hy0n1⟩) HS.out ?rest0n1
        case hi0n1 => (simp only [List.getElem?_toArray, List.getElem?_cons_succ, List.getElem?_cons_zero]; rfl)
        case hw0n1 => rfl
        case hy0n1 => (intro w' hw'; go_simp; try with_reducible rfl)
        try simp only [Act.put, List.setIfInBounds_toArray, List.set_cons_zero, List.set_cons_succ]
        refine' wpAnyJ_take (i := 1) (v := _) [2, 15, 16] ?hi1n2 (by kernel_rfl) (by kernel_rfl) (by kernel_rfl) (by kernel_rfl) (by kernel_rfl) (Or.inl ⟨?hw1n2, ?hy1n2⟩) HS.out ?rest1n2
        case hi1n2 => (simp only [List.getElem?_toArray, List.getElem?_cons_succ, List.getElem?_cons_zero]; rfl)
        case hw1n2 => rfl
        case hy1n2 => (intro w' hw'; go_simp; try with_reducible rfl)
        try simp only [Act.put, List.setIfInBounds_toArray, List.set_cons_zero, List.set_cons_succ]
        refine' wpAnyJ_take (i := 2) (v := _) [15, 16] ?hi2n3 (by kernel_rfl) (by kernel_rfl) (by kernel_rfl) (by kernel_rfl) (by kernel_rfl) (Or.inl ⟨?hw2n3, ?hy2n3⟩) HS.out ?rest2n3
        case hi2n3 => (simp only [List.getElem?_toArray, List.getElem?_cons_succ, List.getElem?_cons_zero]; rfl)
        case hw2n3 => rfl
        case hy2n3 => (intro w' hw'; obtain ⟨⟨i0, i1, i2, i3, i4⟩, _⟩ := hw'; go_simp; try with_reducible rfl)
        try simp only [Act.put, List.setIfInBounds_toArray, List.set_cons_zero, List.set_cons_succ]
        refine' wpAnyJ_take (i := 3) (v := _) [6, 7, 8, 9, 12, 15, 16] ?hi3n4 (by kernel_rfl) (by kernel_rfl) (by kernel_rfl) (by kernel_rfl) (by kernel_rfl) (Or.inl ⟨?hw3n4, ?hy3n4⟩) HS.out ?rest3n4
        case hi3n4 => (simp only [List.getElem?_toArray, List.getElem?_cons_succ, List.getElem?_cons_zero]; rfl)
        case hw3n4 => rfl
        case hy3n4 => (intro w' hw'; go_simp; try with_reducible rfl)
        try simp only [Act.put, List.setIfInBounds_toArray, List.set_cons_zero, List.set_cons_succ]
        refine' wpAnyJ_take (i := 4) (v := _) [5, 8, 9, 12, 15, 16] ?hi4n5 (by kernel_rfl) (by kernel_rfl) (by kernel_rfl) (by kernel_rfl) (by kernel_rfl) (Or.inl ⟨?hw4n5, ?hy4n5⟩) HS.out ?rest4n5
        case hi4n5 => (simp only [List.getElem?_toArray, List.getElem?_cons_succ, List.getElem?_cons_zero]; rfl)
        case hw4n5 => rfl
        case hy4n5 => (intro w' hw'; go_simp; try with_reducible rfl)
        try simp only [Act.put, List.setIfInBounds_toArray, List.set_cons_zero, List.set_cons_succ]
        refine' wpAnyJ_take (i := 5) (v := _) [8, 9, 12, 15, 16] ?hi5n6 (by kernel_rfl) (by kernel_rfl) (by kernel_rfl) (by kernel_rfl) (by kernel_rfl) (Or.inl ⟨?hw5n6, ?hy5n6⟩) HS.out ?rest5n6
        case hi5n6 => (simp only [List.getElem?_toArray, List.getElem?_cons_succ, List.getElem?_cons_zero]; rfl)
        case hw5n6 => rfl
        case hy5n6 => (intro w' hw'; obtain ⟨⟨i0, i1, i2, i3, i4⟩, _⟩ := hw'; go_simp; try with_reducible rfl)
        try simp only [Act.put, List.setIfInBounds_toArray, List.set_cons_zero, List.set_cons_succ]
        refine' wpAnyJ_take (i := 6) (v := _) [7, 8, 9, 12, 15, 16] ?hi6n7 (by kernel_rfl) (by kernel_rfl) (by kernel_rfl) (by kernel_rfl) (by kernel_rfl) (Or.inl ⟨?hw6n7, ?hy6n7⟩) HS.out ?rest6n7
        case hi6n7 => (simp only [List.getElem?_toArray, List.getElem?_cons_succ, List.getElem?_cons_zero]; rfl)
        case hw6n7 => rfl
        case hy6n7 => (intro w' hw'; go_simp; try with_reducible rfl)
        try simp only [Act.put, List.setIfInBounds_toArray, List.set_cons_zero, List.set_cons_succ]
        refine' wpAnyJ_take (i := 7) (v := _) [8, 9, 12, 15, 16] ?hi7n8 (by kernel_rfl) (by kernel_rfl) (by kernel_rfl) (by kernel_rfl) (by kernel_rfl) (Or.inl ⟨?hw7n8, ?hy7n8⟩) HS.out ?rest7n8
        case hi7n8 => (simp only [List.getElem?_toArray, List.getElem?_cons_succ, List.getElem?_cons_zero]; rfl)
        case hw7n8 => rfl
        case hy7n8 => (intro w' hw'; go_simp; try with_reducible rfl)
        try simp only [Act.put, List.setIfInBounds_toArray, List.set_cons_zero, List.set_cons_succ]
        refine' wpAnyJ_take (i := 8) (v := _) [9, 12, 15, 16] ?hi8n9 (by kernel_rfl) (by kernel_rfl) (by kernel_rfl) (by kernel_rfl) (by kernel_rfl) (Or.inl ⟨?hw8n9, ?hy8n9⟩) HS.out ?rest8n9
        case hi8n9 => (simp only [List.getElem?_toArray, List.getElem?_cons_succ, List.getElem?_cons_zero]; rfl)
        case hw8n9 => rfl
        case hy8n9 => (intro w' hw'; go_simp; try with_reducible rfl)
        try simp only [Act.put, List.setIfInBounds_toArray, List.set_cons_zero, List.set_cons_succ]
        refine' wpAnyJ_take (i := 9) (v := _) [12, 15, 16] ?hi9n10 (by kernel_rfl) (by kernel_rfl) (by kernel_rfl) (by kernel_rfl) (by kernel_rfl) (Or.inl ⟨?hw9n10, ?hy9n10⟩) HS.out ?rest9n10
        case hi9n10 => (simp only [List.getElem?_toArray, List.getElem?_cons_succ, List.getElem?_cons_zero]; rfl)
        case hw9n10 => rfl
        case hy9n10 => (intro w' hw'; have h0 := hw'.2; go_simp; try with_reducible rfl)
        try simp only [Act.put, List.setIfInBounds_toArray, List.set_cons_zero, List.set_cons_succ]
        refine' wpAnyJ_take (i := 10) (v := _) [11, 12, 15, 16] ?hi10n11 (by kernel_rfl) (by kernel_rfl) (by kernel_rfl) (by kernel_rfl) (by kernel_rfl) (Or.inl ⟨?hw10n11, ?hy10n11⟩) HS.out ?rest10n11
        case hi10n11 => (simp only [List.getElem?_toArray, List.getElem?_cons_succ, List.getElem?_cons_zero]; rfl)
        case hw10n11 => rfl
        case hy10n11 => (intro w' hw'; obtain ⟨⟨i0, i1, i2, i3, i4⟩, _⟩ := hw'; go_simp; try with_reducible rfl)
        try simp only [Act.put, List.setIfInBounds_toArray, List.set_cons_zero, List.set_cons_succ]
        refine' wpAnyJ_take (i := 13) (v := _) [14, 15, 16] ?hi13n12 (by kernel_rfl) (by kernel_rfl) (by kernel_rfl) (by kernel_rfl) (by kernel_rfl) (Or.inl ⟨?hw13n12, ?hy13n12⟩) HS.out ?rest13n12
        case hi13n12 => (simp only [List.getElem?_toArray, List.getElem?_cons_succ, List.getElem?_cons_zero]; rfl)
        case hw13n12 => rfl
        case hy13n12 => (intro w' hw'; go_simp; try with_reducible rfl)
        try simp only [Act.put, List.setIfInBounds_toArray, List.set_cons_zero, List.set_cons_succ]
        refine' wpAnyJ_take (i := 14) (v := _) [15, 16] ?hi14n13 (by kernel_rfl) (by kernel_rfl) (by kernel_rfl) (by kernel_rfl) (by kernel_rfl) (Or.inl ⟨?hw14n13, ?hy14n13⟩) HS.out ?rest14n13
        case hi14n13 => (simp only [List.getElem?_toArray, List.getElem?_cons_succ, List.getElem?_cons_zero]; rfl)
        case hw14n13 => rfl
        case hy14n13 => (intro w' hw'; go_simp; try with_reducible rfl)
        try simp only [Act.put, List.setIfInBounds_toArray, List.set_cons_zero, List.set_cons_succ]
        refine' wpAnyJ_step (i := 11) (o := _) (by kernel_rfl) ?ho11n14 (fun K hK => ?step11n14)
        case ho11n14 => (simp only [List.getElem?_toArray, List.getElem?_cons_succ, List.getElem?_cons_zero]; rfl)
        go_simp
        have hal := below_alloc (Below.refl ud.heap.size ud) (.cells #[.int .i64 (s : Int), .int .i64 x.k, .int .u64 x.t, .int .u64 x.v, .int .i64 x.x] 33)
        have HXX : Hid (ItemsAt (ud.alloc (.cells #[.int .i64 (s : Int), .int .i64 x.k, .int .u64 x.t, .int .u64 x.v, .int .i64 x.x] 33)) (some ⟨ud.heap.size, 0, none⟩) [x]) := hide (by rw [← HSS.out]; exact RowAt.new_one (cells := It.cells) (sz := 5) (y := x) (heap_alloc_new ud (.cells #[.int .i64 x.s, .int .i64 x.k, .int .u64 x.t, .int .u64 x.v, .int .i64 x.x] 33)))
        have HU := hide (below_step HUD.out hal)
        obtain ⟨gx, hgx⟩ : ∃ gx, ud.heap.size = gx := ⟨_, rfl⟩
        rw [hgx] at HXX
        try rw [hgx]
        obtain ⟨u1, hu1⟩ : ∃ u1, ud.alloc (.cells #[.int .i64 (s : Int), .int .i64 x.k, .int .u64 x.t, .int .u64 x.v, .int .i64 x.x] 33) = u1 := ⟨_, rfl⟩
        rw [hu1] at HXX HU
        try rw [hu1]
        have HS : Hid ((fun W : World => (W.cell? ⟨gb, 0, none⟩ = some (.int .i64 (s : Int)) ∧ W.cell? ⟨gb, 1, none⟩ = some (.int .i64 x.k) ∧ W.cell? ⟨gb, 2, none⟩ = some (.int .u64 x.t) ∧ W.cell? ⟨gb, 3, none⟩ = some (.int .u64 x.v) ∧ W.cell? ⟨gb, 4, none⟩ = some (.int .i64 x.x)) ∧ W.cell? ⟨b, s, none⟩ = some (S s)) u1) := hide ⟨HC.out _ HU.out, HT.out _ HU.out⟩
        clear hal hgx hu1
        refine hK.out _ _ HS.out ?_
        clear hK K
        try simp only [Act.put, List.setIfInBounds_toArray, List.set_cons_zero, List.set_cons_succ]
        refine' wpAnyJ_step (i := 12) (o := _) (by kernel_rfl) ?ho12n15 (fun K hK => ?step12n15)
        case ho12n15 => (simp only [List.getElem?_toArray, List.getElem?_cons_succ, List.getElem?_cons_zero]; rfl)
        refine step_app_itm rfl (.tmp 31) (.tmp 33) rfl rfl (b + 1) (S s) (F s) rfl ((HF.out _ HU.out).own s hs) (some ⟨gx, 0, none⟩) 1 1 [x] rfl rfl HXX.out (by have := HFL.out 0; omega) (Nat.le_trans hbl HU.out.size) ?_
        intro v2 u2 ho2 hg2 hm2
        obtain ⟨A2, c2, rfl, _, _, _⟩ := OwnL.row It.cells_len ho2
        have hl2 : (F s ++ [x]).length = (F s).length + 1 := by simp
        rw [hl2] at ho2 hm2 ⊢
        obtain ⟨v2, hv2⟩ : ∃ v2, Value.slice A2 ((F s).length + 1) c2 = v2 := ⟨_, rfl⟩
        have HV2 := hide hv2
        rw [hv2] at ho2 hm2
        have HR2 := hide ((HF.out _ HU.out).grow hs ho2 hg2 hm2)
        have hkp : ∀ j, (S s).ownBlock = some j → b < j := fun j hj => (OwnL.lt ((HF.out _ HU.out).own s hs) j hj).1
        have HB2 := hide ((hg2.block b (Nat.lt_of_lt_of_le hbl HU.out.size) (fun e => by have := hkp b e.symm; omega)).trans (HBX.out _ HU.out))
        have hgi := (hg2.block gb (Nat.lt_of_lt_of_le lgb HU.out.size) (fun e => HGN.out s hs gb e.symm rfl)).trans ((HU.out.block gb lgb).trans HEB.out)
        have HS : Hid ((fun W : World => (W.cell? ⟨gb, 0, none⟩ = some (.int .i64 (s : Int)) ∧ W.cell? ⟨gb, 1, none⟩ = some (.int .i64 x.k) ∧ W.cell? ⟨gb, 2, none⟩ = some (.int .u64 x.t) ∧ W.cell? ⟨gb, 3, none⟩ = some (.int .u64 x.v) ∧ W.cell? ⟨gb, 4, none⟩ = some (.int .i64 x.x)) ∧ W.cell? ⟨b, s, none⟩ = some (S s)) u2) := hide ⟨(by have h := it_cells5 (x := x) hgi; rw [HSS.out] at h; exact h), (cell_of_list HB2.out).trans (treeL_ser S 0 0 nilS hs)⟩
        have HZ2 : Hid (u2.frozen? ⟨b, s, none⟩ = false) := hide (by simp [World.frozen?, HB2.out])
        have HW2 := hide ((below_step HBA2.out HU.out).grown hg2 (below_step HBA2.out HU.out).size (fun q hq => by have := hkp q hq; have := HGBW.out; omega))
        clear ho2 hg2 hm2 hkp hgi hv2
        refine hK.out _ _ HS.out ?_
        clear hK K
        try simp only [Act.put, List.setIfInBounds_toArray, List.set_cons_zero, List.set_cons_succ]
        refine' wpAnyJ_take (i := 15) (v := _) [16] ?hi15n16 (by kernel_rfl) (by kernel_rfl) (by kernel_rfl) (by kernel_rfl) (by kernel_rfl) (Or.inl ⟨?hw15n16, ?hy15n16⟩) HS.out ?rest15n16
        case hi15n16 => (simp only [List.getElem?_toArray, List.getElem?_cons_succ, List.getElem?_cons_zero]; rfl)
        case hw15n16 => rfl
        case hy15n16 => (intro w' hw'; go_simp; try with_reducible rfl)
        try simp only [Act.put, List.setIfInBounds_toArray, List.set_cons_zero, List.set_cons_succ]
        refine' wpAnyJ_last (i := 16) (o := _) (by kernel_rfl) ?ho16n17 (by kernel_rfl) (fun K hK => ?step16n17)
        case ho16n17 => (simp only [List.getElem?_toArray, List.getElem?_cons_succ, List.getElem?_cons_zero]; rfl)
        have z1 := HZ2.out
        have z2 : u2.cell? ⟨b, s, none⟩ = some (S s) := HS.out.2
        go_simp
        rw [HV2.out]
        refine hK.out _ _ ?_
        clear hK K z1 z2
        try simp only [Act.put, List.setIfInBounds_toArray, List.set_cons_zero, List.set_cons_succ]
        refine wpAnyJ_done (by kernel_rfl) ?_ _
        refine NoPanic.normal ?_
        have HB3 : Hid ((u2.setCell ⟨b, s, none⟩ v2).heap[b]? = some (.cells (treeL (updV S s v2) 0 0 nilS).toArray 57 (0, 0))) := hide (by
          rw [← treeL_setS S 0 0 nilS hs v2]
          exact set_of_list HB2.out v2)
        have HR3 : Hid (TreeR (u2.setCell ⟨b, s, none⟩ v2) (b + 1) (updV S s v2) (serL (L.take (k + 1)))) := hide (by
          have h := HR2.out
          refine ⟨fun t ht => ?_, h.apart⟩
          have h1 := h.own t ht
          have e1 : serL (L.take (k + 1)) t = if t = s then F s ++ [x] else F t := by
            rw [HXS.out t, HFE.out, HSS.out]
            by_cases e : t = s
            · subst e; rw [if_pos rfl, if_pos rfl]
            · rw [if_neg e, if_neg (fun h => e (by omega))]
          rw [e1]
          exact OwnL.setFar h1 (fun e => by have := (OwnL.lt h1 _ e).1; omega) _)
        have HW3 := hide (Sets.below HW2.out ((Sets.refl (S := fun g => g = b) u2).set (g := b) (fun _ => rfl) s v2) (fun g e => by rw [e]; exact Nat.le_of_eq HGB.out) HW2.out.size)
        go_wp2_with fail
        go_roundw
        case rel => exact ⟨k + 1, updV S s v2, by omega, by go_num, HB3.out, HR3.out, HW3.out⟩
        case measure => simp only [intOf]; omega
      · have HEQ : Hid (∀ t, serL (L.take (k + 1)) t = F t ∨ 256 ≤ t) := hide (fun t => by
          by_cases ht : t < 256
          · left
            rw [HXS.out t, HFE.out, if_neg (by omega)]
          · right; omega)
        have HR3 : Hid (TreeR wr2 (b + 1) S (serL (L.take (k + 1)))) := hide (⟨fun t ht => by
          rcases HEQ.out t with e | e
          · rw [e]; exact HFR.out.own t ht
          · omega, HFR.out.apart⟩)
        by_cases h0 : 0 ≤ x.s
        · have h1 : ¬ x.s < 256 := fun h => hin ⟨h0, h⟩
          have h2 : decide (x.s < 256) = false := decide_eq_false h1
          clear hin
          go_wp2_with fail
          go_roundw
          case rel => exact ⟨k + 1, S, by omega, by go_num, HBX2.out, HR3.out, HBA2.out⟩
          case measure => simp only [intOf]; omega
        · clear hin
          go_wp2_with fail
          go_roundw
          case rel => exact ⟨k + 1, S, by omega, by go_num, HBX2.out, HR3.out, HBA2.out⟩
          case measure => simp only [intOf]; omega
    · obtain rfl : k = n := by omega
      have hkI : ¬ (k : Int) < (k : Int) := by omega
      have htk : L.take k = L := List.take_of_length_le (by rw [HN.out]; exact Nat.le_refl _)
      rw [htk] at HF0
      clear hbx htk
      have hbb := HGB.out
      go_wp2_with fail
      go_ret
      exact ⟨b, rfl, ⟨S, HBX0.out, HF0.out⟩, HB.out, Nat.le_of_eq HGB.out⟩
end Go.Proofs.Ythpbohheddkfiaa
