/- Slices of slices of items that a call made: one more row, many rows appended; slices.Clone. Conditions: the bounds typed at each. -/
import Derived.Test.YtfmckinlgaejeaaSl
import Derived.Test.YtfmckinlgaejeaaNest
import Derived.Test.YtfmckinlgaejeaaSsE
import Derived.Laws.Cover3
namespace Go.Proofs.Ytfmckinlgaejeaa
set_option linter.unusedVariables false
set_option linter.unusedSimpArgs false
open Go.ChangeShapes Go.WideShapes Go.ChangeAt Go.RowKit

theorem Try.infoItems : (Try.prog.info? 22).map (fun i => (i.zero, i.size, i.bytes)) = some (some (.slice none 0 0), 1, 24) := by kernel_rfl
abbrev svC : Sv It → List Value := fun s => [s.val]
abbrev OwS (base : Nat) (w : World) (v : Value) (R : List (Sv It)) : Prop := OwnL svC 1 22 base w v R
theorem svC_one (s : Sv It) : ∀ u ∈ svC s, u.oneCell' = true := by
  intro u hu
  rw [List.mem_singleton] at hu
  subst hu
  rfl
theorem rows_none {w : World} {M : List (Sv It)} {A : Option Addr} (h : RowAt svC 1 w A M) : A = none → M = [] := by
  intro e
  subst e
  cases M with
  | nil => rfl
  | cons a M => obtain ⟨b, off, e, _⟩ := h (by simp); cases e
theorem wpList_append_s1 {ops : Array Oper} {rest : List Oper} {o : Oper} {a : Act} {Q : Exit → Act → World → Prop} (hgd : o.guard = none) (s x : Operand)
    (ho : o.op = .call { callee := .builtin .append, args := #[s, x], argTypes := #[23, 23] })
    (B base : Nat) (w0 w W : World) (v : Value) (L : List (Sv It)) (y : Sv It) (hs : a.eval s = v) (hx : a.eval x = .slice (some ⟨w.heap.size, 0, none⟩) 1 1) (hW : W = w.alloc (.cells #[y.val] 22))
    (hown : OwS base w v L) (hb : Below B w0 w) (hB : B ≤ base) (hbase : base ≤ w.heap.size) (hn : L.length ≤ 274877906944)
    (h : ∀ v' w', OwS base w' v' (L ++ [y]) → Below B w0 w' → w.grownBy w' v.ownBlock → wpList Try.prog ops Q rest (a.put o.dst v') w') : wpList Try.prog ops Q (o :: rest) a W := by
  subst hW
  obtain ⟨i0, hi, hz0, hz1, hz2⟩ := info_parts Try.infoItems
  refine wpList_append_row (w.alloc _) hgd s x 23 ho base 22 i0 _ 1 24 Try.underlying23 hi hz0 hz1 hz2 rfl (by omega) (fun _ => rfl) v L hs (OwnL.alloc hown _) (some ⟨w.heap.size, 0, none⟩) 1 [y] hx (RowAt.new_one (cells := svC) (y := y) (t := 22) (fr := (0, 0)) (heap_alloc_new w _)) (by simp) (fun m _ => svC_one m) (by simp only [List.length_singleton, maxLen]; omega) (by simp only [List.length_singleton]; omega) (by simp; omega) ?_
  intro v1 w1 h1 hg _
  refine h v1 w1 h1 ?_ ?_
  · exact (hb.alloc (Nat.le_trans hB hbase) _).grown hg (by simp; omega) (fun k hk => Nat.le_trans hB (OwnL.lt hown k hk).1)
  · exact ⟨hg.os, hg.tape, hg.output, Nat.le_trans (by simp) hg.size, fun k hk hne => (hg.block k (by simp; omega) hne).trans (Below.heap_alloc w _ k hk)⟩
theorem wpList_append_ss {ops : Array Oper} {rest : List Oper} {o : Oper} {a : Act} {Q : Exit → Act → World → Prop} (hgd : o.guard = none) (s x : Operand)
    (ho : o.op = .call { callee := .builtin .append, args := #[s, x], argTypes := #[23, 23] })
    (B base : Nat) (w0 w : World) (v : Value) (L : List (Sv It)) (A : Option Addr) (n c : Nat) (M : List (Sv It)) (hs : a.eval s = v) (hx : a.eval x = .slice A n c) (hM : M.length = n) (hr : RowAt svC 1 w A M)
    (hown : OwS base w v L) (hb : Below B w0 w) (hB : B ≤ base) (hbase : base ≤ w.heap.size) (hn : L.length + n ≤ 274877906944)
    (h : ∀ v' w', OwS base w' v' (L ++ M) → Below B w0 w' → w.grownBy w' v.ownBlock → wpList Try.prog ops Q rest (a.put o.dst v') w') : wpList Try.prog ops Q (o :: rest) a w := by
  subst hM
  obtain ⟨i0, hi, hz0, hz1, hz2⟩ := info_parts Try.infoItems
  refine wpList_append_row w hgd s x 23 ho base 22 i0 _ 1 24 Try.underlying23 hi hz0 hz1 hz2 rfl (by omega) (fun _ => rfl) v L hs hown A c M hx hr (rows_none hr) (fun m _ => svC_one m) (by simp only [maxLen]; omega) (by omega) hbase ?_
  intro v1 w1 h1 hg _
  exact h v1 w1 h1 (hb.grown hg (Nat.le_trans hB hbase) (fun k hk => Nat.le_trans hB (OwnL.lt hown k hk).1)) hg
set_option maxRecDepth 100000 in
set_option maxHeartbeats 1000000 in
theorem clone_ss (A : Option Addr) (c : Nat) (R : List (Sv It)) (w : World) (hR : RowAt svC 1 w A R) (hn : R.length ≤ 1000000) :
    Calls Try.prog 26 #[.slice A R.length c] w fun e w' => ∃ v, e = .returned v ∧ OwS w.heap.size w' v R ∧ Below w.heap.size w w' := by
  cases A with
  | none =>
    obtain rfl := rows_none hR rfl
    have hq : (binOp .eql 23 (.slice none 0 c) (.slice none 0 0)).run Try.prog w = .ok (.bool true) w := by
      simp [go_sem, binOp, run_equal_slice_nil (P := Try.prog) w 23 22 none 0 c Try.underlying23]
    go_enter Try.func26, Try.ntmps26
    go_wp2_with fail
    go_ret
    exact ⟨_, rfl, OwnL.nil_ _ _ _ _ _, Below.refl _ _⟩
  | some a =>
    have HOE := hide (own_emptyE svC 1 22 w.heap.size w (Nat.le_refl _))
    have hb1 := below_alloc (Below.refl w.heap.size w) (.cells #[] 22)
    have HR := hide (hR.below hb1)
    have HB := hide hb1
    have hz := hb1.size
    clear hR hb1
    have hq : (binOp .eql 23 (.slice (some a) R.length c) (.slice none 0 0)).run Try.prog w = .ok (.bool false) w := by
      simp [go_sem, binOp, run_equal_slice_nil (P := Try.prog) w 23 22 (some a) R.length c Try.underlying23]
    go_enter Try.func26, Try.ntmps26
    go_wp2_with (at_builtin; refine wpList_append_ss rfl (.tmp 5) (.tmp 6) rfl w.heap.size w.heap.size w _ _ [] (some a) R.length c R rfl rfl rfl HR.out HOE.out HB.out (Nat.le_refl _) hz (by simp only [List.length_nil]; omega) ?_; intro v2 w2 ho2 hb2 hg2; have HO2 := hide ho2; have HB2 := hide hb2; clear ho2 hb2 hg2)
    go_ret
    exact ⟨_, rfl, HO2.out, HB2.out⟩
end Go.Proofs.Ytfmckinlgaejeaa
