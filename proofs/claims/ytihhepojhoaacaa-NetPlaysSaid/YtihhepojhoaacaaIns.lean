/- slices.Insert of one item into a slice that the call made: contract. Conditions: the place is one; the length's bound; the one item lies in a block of its own. -/
import Derived.Test.YtihhepojhoaacaaOg
import Derived.Lib.Overlaps
import Derived.Lib.AppendZerosOnto
import Derived.ArgAppend
import Derived.Deep.RegionLaw
import Derived.Laws.Externs
import Derived.IntWalk
namespace Go.Proofs.Ytihhepojhoaacaa
set_option linter.unusedVariables false
set_option linter.unusedSimpArgs false
open Go.ChangeShapes Go.WideShapes Go.ChangeAt Go.RowKit

section
variable {P : Program}
theorem wpList_copy_rowN (w : World) {ops : Array Oper} {rest : List Oper} {o : Oper} {a : Act} {Q : Exit → Act → World → Prop} (hgd : o.guard = none) (d s : Operand) (dT sT : TypeId)
    (ho : o.op = .call { callee := .builtin .copy, args := #[d, s], argTypes := #[dT, sT] }) (elem : TypeId) (i : TypeInfo) (hu : P.underlying dT = some (.slice elem)) (hi : P.info? elem = some i)
    (g off dLen dCap : Nat) (ad : Addr) (sLen sCap : Nat) (hd : a.eval d = .slice (some ⟨g, off, none⟩) dLen dCap) (hs : a.eval s = .slice (some ad) sLen sCap)
    (cur : List Value) (t : TypeId) (hg : w.heap[g]? = some (.cells cur.toArray t (0, 0))) (cs : List Value) (hn : cs.length = Nat.min sLen dLen * i.size)
    (hsrc : ∀ j v, cs[j]? = some v → w.cell? (ad.add j) = some v) (hfit : off + cs.length ≤ cur.length) (h1 : ∀ v ∈ cs, v.oneCell' = true)
    (h : ∀ w', Hid (w'.heap[g]? = some (.cells (cur.take off ++ cs ++ cur.drop (off + cs.length)).toArray t (0, 0))) → w.grownBy w' (some g) → wpList P ops Q rest (a.put o.dst (goInt (Nat.min sLen dLen))) w') : wpList P ops Q (o :: rest) a w := by
  refine wpList_plain hgd fun K hK => ?_
  have hrun := run_copy_rowN (P := P) w dT sT o.type elem i g off dLen dCap ad sLen sCap cur t cs hu hi hg hn hsrc hfit h1
  unfold Oper.wp
  simp only [execOp, ho, resolve, invoke, builtin, Sem.run_bind, Sem.run_pure, Result.andThen_ok, List.map_toArray, List.map_cons, List.map_nil, hd, hs, hrun]
  exact hK _ _ (h _ (show _ = _ from setRow_heap w g _ _ t _ hg) (grownBy_setRow w g _))
theorem step_copy_rowN (w : World) {ops : Array Oper} {o : Oper} {a : Act} {K : Act → World → Prop} {Q : Exit → Act → World → Prop} {E : Prop} (hgd : o.guard = none) (d s : Operand) (dT sT : TypeId)
    (ho : o.op = .call { callee := .builtin .copy, args := #[d, s], argTypes := #[dT, sT] }) (elem : TypeId) (i : TypeInfo) (hu : P.underlying dT = some (.slice elem)) (hi : P.info? elem = some i)
    (g off dLen dCap : Nat) (ad : Addr) (sLen sCap : Nat) (hd : a.eval d = .slice (some ⟨g, off, none⟩) dLen dCap) (hs : a.eval s = .slice (some ad) sLen sCap)
    (cur : List Value) (t : TypeId) (hg : w.heap[g]? = some (.cells cur.toArray t (0, 0))) (cs : List Value) (hn : cs.length = Nat.min sLen dLen * i.size)
    (hsrc : ∀ j v, cs[j]? = some v → w.cell? (ad.add j) = some v) (hfit : off + cs.length ≤ cur.length) (h1 : ∀ v ∈ cs, v.oneCell' = true)
    (h : ∀ w', Hid (w'.heap[g]? = some (.cells (cur.take off ++ cs ++ cur.drop (off + cs.length)).toArray t (0, 0))) → w.grownBy w' (some g) → K (a.put o.dst (goInt (Nat.min sLen dLen))) w') :
    if Region.wanted o (yielded ops a.tmps) = true then Oper.wp P o a w K Q else E := by
  have hw : Region.wanted o (yielded ops a.tmps) = true := by simp [Region.wanted, hgd]
  rw [if_pos hw]
  have hrun := run_copy_rowN (P := P) w dT sT o.type elem i g off dLen dCap ad sLen sCap cur t cs hu hi hg hn hsrc hfit h1
  unfold Oper.wp
  simp only [execOp, ho, resolve, invoke, builtin, Sem.run_bind, Sem.run_pure, Result.andThen_ok, List.map_toArray, List.map_cons, List.map_nil, hd, hs, hrun]
  exact h _ (show _ = _ from setRow_heap w g _ _ t _ hg) (grownBy_setRow w g _)
end

/-- What a call returns that had a slice of its own: another one of its own; it wrote to the old one's row alone. -/
def RetOg (base : Nat) (L : List It) (v : Value) (w : World) (e : Ending) (w' : World) : Prop := ∃ v', e = .returned v' ∧ Og base w' v' L ∧ Wrote w w' v v'

/-- The cells of a row: as its list says. -/
theorem row_cell {w : World} {g : Nat} {l : List Value} {t : TypeId} (h : w.heap[g]? = some (.cells l.toArray t (0, 0))) (k j : Nat) (v : Value) (hj : l[k + j]? = some v) : w.cell? ((⟨g, k, none⟩ : Addr).add j) = some v := by
  rw [Addr.add_lit, cell_of_row w g (k + j) _ _ _ h]
  simpa using hj
theorem flat_split (L : List It) (i : Nat) (hi : i ≤ L.length) : flat L = flat (L.take i) ++ flat (L.drop i) := by rw [← flat_app, List.take_append_drop]
theorem flat_take_len (L : List It) (i : Nat) (hi : i ≤ L.length) : (flat (L.take i)).length = i * 5 := by rw [flat_length, List.length_take]; omega
theorem flat_drop_len (L : List It) (i : Nat) : (flat (L.drop i)).length = (L.length - i) * 5 := by rw [flat_length, List.length_drop]
/-- The row behind the two copies in place. -/
theorem splice_in {X Y R c : List Value} {p : Nat} (hX : X.length = p) (hR : 5 ≤ R.length) (hc : c.length = 5) :
    let M := (X ++ Y ++ R).take (p + 5) ++ Y ++ (X ++ Y ++ R).drop (p + 5 + Y.length)
    M.take p ++ c ++ M.drop (p + 5) = X ++ c ++ Y ++ R.drop 5 := by
  subst hX
  intro M
  have e1 : (X ++ Y ++ R).take (X.length + 5) = X ++ (Y ++ R).take 5 := by rw [List.append_assoc, List.take_append, List.take_of_length_le (by omega)]; simp
  have e2 : (X ++ Y ++ R).drop (X.length + 5 + Y.length) = R.drop 5 := by
    rw [List.drop_append, List.drop_eq_nil_of_le (by (try simp); (try omega))]
    simp only [List.length_append, List.nil_append]
    rw [show X.length + 5 + Y.length - (X.length + Y.length) = 5 from by omega]
  have hM : M = X ++ ((Y ++ R).take 5 ++ (Y ++ R.drop 5)) := by
    show (X ++ Y ++ R).take (X.length + 5) ++ Y ++ (X ++ Y ++ R).drop (X.length + 5 + Y.length) = _
    rw [e1, e2]; simp
  have hl : ((Y ++ R).take 5).length = 5 := by rw [List.length_take]; simp; omega
  rw [hM, List.take_left, List.drop_append, List.drop_eq_nil_of_le (by omega), List.nil_append, show X.length + 5 - X.length = 5 by omega, List.drop_append, List.drop_eq_nil_of_le (by omega), hl]
  simp

theorem min_a {n i : Nat} (h : i < n) : Nat.min (n + 1 - i) (n + 1 - (i + 1)) = n - i := by simp only [Nat.min_def]; split <;> omega
theorem min_b {n i : Nat} (h : i < n) : Nat.min 1 (n + 1 - i) = 1 := by simp only [Nat.min_def]; split <;> omega
theorem splice_len {l cs : List Value} {o : Nat} (h : o + cs.length ≤ l.length) : (l.take o ++ cs ++ l.drop (o + cs.length)).length = l.length := by simp; omega
theorem ins_len (L : List It) (i : Nat) (x : It) (hi : i ≤ L.length) : (L.take i ++ x :: L.drop i).length = L.length + 1 := by simp; omega
theorem ins_flat {L : List It} {i : Nat} {x : It} {R : List Value} (hi : i < L.length) (hR : 5 ≤ R.length) :
    ((((flat L ++ R).take ((i + 1) * 5) ++ flat (L.drop i) ++ (flat L ++ R).drop ((i + 1) * 5 + (flat (L.drop i)).length)).take (i * 5) ++ x.cells) ++ ((flat L ++ R).take ((i + 1) * 5) ++ flat (L.drop i) ++ (flat L ++ R).drop ((i + 1) * 5 + (flat (L.drop i)).length)).drop (i * 5 + x.cells.length)) = flat (L.take i ++ x :: L.drop i) ++ R.drop 5 := by
  have h := splice_in (X := flat (L.take i)) (Y := flat (L.drop i)) (R := R) (c := x.cells) (p := i * 5) (flat_take_len L i (by omega)) hR rfl
  rw [← flat_split L i (by omega)] at h
  rw [show (i + 1) * 5 = i * 5 + 5 by omega, show x.cells.length = 5 from rfl]
  rw [h, flat_app, flat_cons]
  simp
theorem append_flat (L : List It) (R : List Value) (y : It) (hR : 5 ≤ R.length) : ((flat L ++ R).toArray.toList.take (L.length * 5) ++ y.cells ++ (flat L ++ R).toArray.toList.drop (L.length * 5 + y.cells.length)) = flat (L ++ [y]) ++ R.drop 5 := by
  have hl := flat_length L
  rw [List.toList_toArray, ← hl, List.take_left, List.drop_append, List.drop_eq_nil_of_le (by omega), flat_app]
  rw [show (flat L).length + y.cells.length - (flat L).length = 5 from by have : y.cells.length = 5 := rfl; omega]
  simp [flat]
theorem wpList_append_og {ops : Array Oper} {rest : List Oper} {o : Oper} {a : Act} {Q : Exit → Act → World → Prop} (hgd : o.guard = none) (s x : Operand)
    (ho : o.op = .call { callee := .builtin .append, args := #[s, x], argTypes := #[26, 26] })
    (base g cap gv : Nat) (R : List Value) (L : List It) (y : It) (w : World) (hs : a.eval s = .slice (some ⟨g, 0, none⟩) L.length cap) (hx : a.eval x = .slice (some ⟨gv, 0, none⟩) 1 1)
    (hb : base ≤ g) (hg : w.heap[g]? = some (.cells (flat L ++ R).toArray 66 (0, 0))) (hgv : w.heap[gv]? = some (.cells y.cells.toArray 66 (0, 0))) (hnc : L.length ≤ cap) (hcm : cap ≤ maxLen) (hfit : cap * 5 ≤ L.length * 5 + R.length)
    (hbase : base ≤ w.heap.size) (hn : L.length ≤ 2199023255552)
    (h : ∀ v' w', Og base w' v' (L ++ [y]) → Wrote w w' (.slice (some ⟨g, 0, none⟩) L.length cap) v' → wpList Try.prog ops Q rest (a.put o.dst v') w') : wpList Try.prog ops Q (o :: rest) a w := by
  obtain ⟨i0, hi0, hz0, hz1, hz2⟩ := info_parts Try.infoItem
  refine wpList_plain hgd fun K hK => ?_
  have hnews : ∀ j u, y.cells[j]? = some u → w.cell? ((⟨gv, 0, none⟩ : Addr).add j) = some u := fun j u hj => row_cell hgv 0 j u (by rw [Nat.zero_add]; exact hj)
  by_cases hr : L.length + 1 ≤ cap
  · have hrun := run_append_room (P := Try.prog) w 26 o.type 66 i0 Try.underlying26 hi0 g L.length cap (flat L ++ R).toArray hg ⟨gv, 0, none⟩ 1 1 y.cells (by rw [hz1]; rfl) hnews (It.cells_one y) hr (by rw [hz1]; simp [flat_length, It.cells]; omega)
    rw [hz1] at hrun
    unfold Oper.wp execOp
    simp only [ho, resolve, invoke, builtin, Sem.run_bind, Sem.run_pure, Result.andThen_ok, List.map_toArray, List.map_cons, List.map_nil, hs, hx, hrun]
    refine hK _ _ (h _ _ (.inr ⟨g, cap, R.drop 5, by simp, hb, ?_, by simp; omega, hcm, by rw [List.length_append, List.length_drop]; simp only [List.length_singleton]; omega⟩) ⟨grownBy_setRow w g _, .inl rfl⟩)
    rw [append_flat L R y (by omega)]
    exact setRow_heap w g _ _ _ _ hg
  · obtain ⟨v', w', hrun, h1, h2⟩ := run_append_arg_grows (P := Try.prog) w 26 o.type 66 i0 _ 5 40 Try.underlying26 hi0 hz0 hz1 hz2 rfl (by omega) ⟨g, 0, none⟩ L.length cap (flat L) (flat_length L) (fun j u hj => row_cell hg 0 j u (by rw [Nat.zero_add, List.getElem?_append_left (List.getElem?_eq_some_iff.1 hj).1]; exact hj)) ⟨gv, 0, none⟩ 1 1 y.cells rfl hnews (by omega) (by unfold maxLen; omega) (by omega)
    unfold Oper.wp execOp
    simp only [ho, resolve, invoke, builtin, Sem.run_bind, Sem.run_pure, Result.andThen_ok, List.map_toArray, List.map_cons, List.map_nil, hs, hx, hrun]
    have ho' : Ow w.heap.size w' v' (L ++ [y]) := by
      unfold Ow OwnL
      rw [List.length_append, List.flatMap_append]
      simpa [flat] using h1
    refine hK _ _ (h _ _ ((ho'.og).base_ hbase) ⟨⟨h2.os, h2.tape, h2.output, h2.size, fun k hk _ => h2.block k hk (by simp)⟩, .inr ?_⟩)
    rcases h1.2 with ⟨_, h0⟩ | ⟨g', c', cur, rfl, hb', _⟩
    · omega
    · exact ⟨g', rfl, hb'⟩

theorem wpList_append_zeros {ops : Array Oper} {rest : List Oper} {o : Oper} {a : Act} {Q : Exit → Act → World → Prop} (hgd : o.guard = none) (s x : Operand)
    (ho : o.op = .call { callee := .builtin .append, args := #[s, x], argTypes := #[26, 3] })
    (g cap i : Nat) (R : List Value) (L : List It) (w : World) (k : Int) (hk : k = ((L.length + 1 - i : Nat) : Int)) (hs : a.eval s = .slice (some ⟨g, 0, none⟩) i cap) (hx : a.eval x = .int .i64 k)
    (hg : w.heap[g]? = some (.cells (flat L ++ R).toArray 66 (0, 0))) (hi : i < L.length) (hc : cap < L.length + 1) (hn : L.length ≤ 2199023255552)
    (h : ∀ G ZZ w', L.length + 1 ≤ G → G ≤ maxLen → ZZ.length = (G - i) * 5 → Hid (w'.heap[w.heap.size]? = some (.cells (flat (L.take i) ++ ZZ).toArray 66 (0, 0))) → Below w.heap.size w w' →
      wpList Try.prog ops Q rest (a.put o.dst (.slice (some ⟨w.heap.size, 0, none⟩) (L.length + 1) G)) w') : wpList Try.prog ops Q (o :: rest) a w := by
  obtain ⟨i0, hi0, hz0, hz1, hz2⟩ := info_parts Try.infoItem
  subst hk
  refine wpList_plain hgd fun K hK => ?_
  have hik : i + (L.length + 1 - i) = L.length + 1 := by omega
  have hold : (Builtin.firstCells i0.size i (.slice (some ⟨g, 0, none⟩) i cap)).run Try.prog w.drew = .ok (flat (L.take i)).toArray w.drew := by
    rw [hz1]
    exact run_firstCells_some w.drew 5 i ⟨g, 0, none⟩ i cap (flat (L.take i)) (flat_take_len L i (by omega)) (fun j v hj => row_cell (w := w.drew) hg 0 j v (by
      rw [Nat.zero_add, flat_split L i (by omega), List.append_assoc, List.getElem?_append_left (List.getElem?_eq_some_iff.1 hj).1]; exact hj))
  have hrun := Lib.run_append_grow_zeros w 26 3 o.type 66 i0 _ .i64 .i64 Try.underlying26 Try.underlying3 hi0 hz0 (some ⟨g, 0, none⟩) i cap (flat (L.take i)) hold (L.length + 1 - i) (by omega) (by omega) (by omega) (by omega) (by rw [hz2]; omega) (by rw [hz2, hik]; exact growslice_fits hc (by omega))
  rw [hik] at hrun
  have hG := grownCap_ge w (L.length + 1) cap 66
  have hG2 := grownCap_le_maxLen w (L.length + 1) cap 66 (by unfold maxLen; omega)
  generalize grownCap w (L.length + 1) cap 66 = G at *
  unfold Oper.wp execOp
  simp only [ho, resolve, invoke, builtin, Sem.run_bind, Sem.run_pure, Result.andThen_ok, List.map_toArray, List.map_cons, List.map_nil, hs, hx, hrun]
  refine hK _ _ (h G ((Builtin.zeroCells (Value.agg #[.int .i64 0, .int .i64 0, .int .u64 0, .int .u64 0, .int .i64 0]).cells (L.length + 1 - i)).toList ++ (Builtin.zeroCells (Value.agg #[.int .i64 0, .int .i64 0, .int .u64 0, .int .u64 0, .int .i64 0]).cells (G - (L.length + 1))).toList) _ hG hG2 ?_ ?_ ?_)
  · simp only [List.length_append, Array.length_toList, size_zeroCells]
    show (L.length + 1 - i) * 5 + (G - (L.length + 1)) * 5 = _
    omega
  · show _ = _
    have := heap_alloc_new w.drew (.cells ((flat (L.take i)).toArray ++ Builtin.zeroCells (Value.agg #[.int .i64 0, .int .i64 0, .int .u64 0, .int .u64 0, .int .i64 0]).cells (L.length + 1 - i) ++ Builtin.zeroCells (Value.agg #[.int .i64 0, .int .i64 0, .int .u64 0, .int .u64 0, .int .i64 0]).cells (G - (L.length + 1))) 66)
    rw [show (flat (L.take i) ++ ((Builtin.zeroCells (Value.agg #[.int .i64 0, .int .i64 0, .int .u64 0, .int .u64 0, .int .i64 0]).cells (L.length + 1 - i)).toList ++ (Builtin.zeroCells (Value.agg #[.int .i64 0, .int .i64 0, .int .u64 0, .int .u64 0, .int .i64 0]).cells (G - (L.length + 1))).toList)).toArray = (flat (L.take i)).toArray ++ Builtin.zeroCells (Value.agg #[.int .i64 0, .int .i64 0, .int .u64 0, .int .u64 0, .int .i64 0]).cells (L.length + 1 - i) ++ Builtin.zeroCells (Value.agg #[.int .i64 0, .int .i64 0, .int .u64 0, .int .u64 0, .int .i64 0]).cells (G - (L.length + 1)) from by apply Array.ext'; simp]
    exact this
  · exact ((Below.refl _ _).drew).alloc (Nat.le_refl _) _

theorem min_c {n i : Nat} : Nat.min (n - i) (n + 1 - (i + 1)) = n - i := by simp only [Nat.min_def]; split <;> omega
theorem fit1 {L : List It} {i : Nat} {ZZ : List Value} {G : Nat} (x : It) (hi : i < L.length) (hZ : ZZ.length = (G - i) * 5) (hG : L.length + 1 ≤ G) : i * 5 + x.cells.length ≤ (flat (L.take i) ++ ZZ).length := by
  rw [List.length_append, flat_take_len L i (by omega)]
  show i * 5 + 5 ≤ _
  omega
theorem fit2 {L : List It} {i : Nat} {ZZ : List Value} {G : Nat} (x : It) (hi : i < L.length) (hZ : ZZ.length = (G - i) * 5) (hG : L.length + 1 ≤ G) : (i + 1) * 5 + (flat (L.drop i)).length ≤ (flat (L.take i) ++ x.cells ++ ZZ.drop 5).length := by
  rw [List.length_append, List.length_append, flat_take_len L i (by omega), List.length_drop, flat_drop_len]
  show _ ≤ i * 5 + 5 + _
  omega
theorem grow_flat1 {L : List It} {i : Nat} {x : It} {ZZ : List Value} (hi : i < L.length) : ((flat (L.take i) ++ ZZ).take (i * 5) ++ x.cells ++ (flat (L.take i) ++ ZZ).drop (i * 5 + x.cells.length)) = flat (L.take i) ++ x.cells ++ ZZ.drop 5 := by
  have hl := flat_take_len L i (by omega)
  rw [← hl, List.take_left, List.drop_append, List.drop_eq_nil_of_le (by omega)]
  rw [show (flat (L.take i)).length + x.cells.length - (flat (L.take i)).length = 5 from by have : x.cells.length = 5 := rfl; omega]
  simp
theorem splice_end {X Y Z : List Value} {p : Nat} (hX : X.length = p) : (X ++ Z).take p ++ Y ++ (X ++ Z).drop (p + Y.length) = X ++ Y ++ Z.drop Y.length := by
  subst hX
  rw [List.take_left, List.drop_append, List.drop_eq_nil_of_le (by omega), List.nil_append, Nat.add_sub_cancel_left]
theorem grow_flat2 {L : List It} {i : Nat} {x : It} {ZZ : List Value} (hi : i < L.length) : ((flat (L.take i) ++ x.cells ++ ZZ.drop 5).take ((i + 1) * 5) ++ flat (L.drop i) ++ (flat (L.take i) ++ x.cells ++ ZZ.drop 5).drop ((i + 1) * 5 + (flat (L.drop i)).length)) = flat (L.take i ++ x :: L.drop i) ++ ZZ.drop (5 + (flat (L.drop i)).length) := by
  have hl := flat_take_len L i (by omega)
  have h5 : x.cells.length = 5 := rfl
  have h := splice_end (X := flat (L.take i) ++ x.cells) (Y := flat (L.drop i)) (Z := ZZ.drop 5) (p := (i + 1) * 5) (by rw [List.length_append, hl, h5]; omega)
  rw [h, flat_app, flat_cons, List.drop_drop]
  simp

theorem wrote_nil {w w' : World} {v' : Value} {base : Nat} {L : List It} (hg : w.grownBy w' none) (ho : Og base w' v' L) (hb : ∀ k, v'.ownBlock = some k → w.heap.size ≤ k) : Wrote w w' (.slice none 0 0) v' := by
  refine ⟨hg, ?_⟩
  cases e : v'.ownBlock with
  | none => exact .inl rfl
  | some k => exact .inr ⟨k, rfl, hb k e⟩
end Go.Proofs.Ytihhepojhoaacaa
