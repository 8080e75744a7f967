/- What wakes layer 24's statements: a call that asks, and its messages. Conditions typed at each lemma. -/
import Derived.Test.YtdlkncmjkpcnfaaOwn
import Derived.StillTailTactics
import Derived.BigRegion
import Derived.Deep.DeepCutAuto
import Derived.Deep.CutBlock
namespace Go.Proofs.Ytdlkncmjkpcnfaa
open Go.ChangeShapes Go.WideShapes Go.ChangeAt Go.RowKit

structure Ms where
  kind : Int
  from_ : Int
  dest : Int
  id : Int
  n : Int
  items : Value
def Ms.cells (m : Ms) : List Value := [.int .i64 m.kind, .int .i64 m.from_, .int .i64 m.dest, .int .u64 m.id, .int .u64 m.n, m.items]
def asks (at_ id s : Int) (k : Nat) : List Ms := (List.range k).map fun q : Nat => (⟨4, at_, (q : Int), id, s, .slice none 0 0⟩ : Ms)
theorem asks_len (at_ id s : Int) (k : Nat) : (asks at_ id s k).length = k := by simp [asks]
theorem asks_snoc (at_ id s : Int) (k : Nat) : asks at_ id s (k + 1) = asks at_ id s k ++ [⟨4, at_, k, id, s, .slice none 0 0⟩] := by simp [asks, List.range_succ]
theorem Try.infoMsg : (Try.prog.info? 57).map (fun i => (i.zero, i.size, i.bytes)) = some (some (.agg #[.int .i64 0, .int .i64 0, .int .i64 0, .int .u64 0, .int .u64 0, .slice none 0 0]), 6, 64) := by kernel_rfl

/-- A call's cells that 'send' reads: a get, nobody counted. -/
structure GetAt (w : World) (b : Nat) (n at_ id s : Int) : Prop where
  lt : b < w.heap.size
  c0 : w.cell? ⟨b, 0, none⟩ = some (.int .i64 n)
  c1 : w.cell? ⟨b, 1, none⟩ = some (.int .i64 at_)
  c2 : w.cell? ⟨b, 2, none⟩ = some (.int .u64 id)
  c3 : w.cell? ⟨b, 3, none⟩ = some (.int .i64 3)
  c4 : w.cell? ⟨b, 4, none⟩ = some (.int .i64 s)
  cc : ∀ k : Nat, k < 7 → w.cell? ⟨b, 8 + k, none⟩ = some (.bool false)
theorem GetAt.below {w w' : World} {b : Nat} {n at_ id s : Int} (h : GetAt w b n at_ id s) (hb : Below w.heap.size w w') : GetAt w' b n at_ id s :=
  ⟨Nat.lt_of_lt_of_le h.lt hb.size, (hb.cell (p := ⟨b, _, none⟩) h.lt).trans h.c0, (hb.cell (p := ⟨b, _, none⟩) h.lt).trans h.c1, (hb.cell (p := ⟨b, _, none⟩) h.lt).trans h.c2, (hb.cell (p := ⟨b, _, none⟩) h.lt).trans h.c3,
   (hb.cell (p := ⟨b, _, none⟩) h.lt).trans h.c4, fun k hk => (hb.cell (p := ⟨b, _, none⟩) h.lt).trans (h.cc k hk)⟩

set_option maxHeartbeats 3200000 in
set_option maxRecDepth 100000 in
theorem send_get (b : Nat) (n : Nat) (at_ id s : Int) (w : World) (hn : n ≤ 7) (hs : 0 ≤ s ∧ s ≤ 255) (h : GetAt w b n at_ id s) :
    Calls Try.prog 11 #[.pointer (some ⟨b, 0, none⟩)] w fun e w' => (∃ v, e = .returned v ∧ OwnL Ms.cells 6 57 w.heap.size w' v (asks at_ id s n)) ∧ Below w.heap.size w w' := by
  obtain ⟨i0, hi, hz0, hz1, hz2⟩ := info_parts Try.infoMsg
  have c0 := h.c0
  have hlt := h.lt
  have H := hide h
  clear h
  go_enter Try.func11, Try.ntmps11
  go_wp2
  go_loopw [3, 10] (fun v i wr => ∃ k : Nat, k ≤ n ∧ i = .int .i64 k ∧ OwnL Ms.cells 6 57 w.heap.size wr v (asks at_ id s k) ∧ Below w.heap.size w wr) (fun _ i _ => n - (intOf i).toNat)
  case atStart => exact ⟨0, by omega, rfl, OwnL.nil_ _ _ _ _ _, Below.refl _ _⟩
  case round =>
    obtain ⟨k, hk, rfl, hown, hb⟩ := hrel
    by_cases hlt' : k < n
    · obtain ⟨hltr, d0, d1, d2, d3, d4, dc⟩ := H.out.below hb
      have dk := dc k (by omega)
      clear c0 dc
      go_wp2
      go_region
      go_wp2
      go_region
      go_wp2_with (at_builtin; refine wpList_append_row _ rfl (.tmp 55) (.tmp 57) 54 rfl w.heap.size 57 i0 _ 6 64 Try.underlying54 hi hz0 hz1 hz2 rfl (by omega) (fun _ => rfl) _ (asks at_ id s k) rfl (hown.below ?b1) (some ⟨_, 0, none⟩) 1 [⟨4, at_, k, id, s, .slice none 0 0⟩] rfl (RowAt.new_one (t := 57) (fr := (0, 0)) (heap_at (w := wr.alloc _) (by simp))) (by simp) ?h1 ?c3 ?c4 ?c5 ?_)
      case b1 => go_grown
      case h1 => intro m hm u hu; simp at hm; subst hm; simp [Ms.cells] at hu; rcases hu with rfl | rfl | rfl | rfl | rfl | rfl <;> rfl
      case c3 => simp [asks_len, maxLen]; omega
      case c4 => simp [asks_len]; omega
      case c5 => have := hb.size; simp; omega
      · intro v1 w1 hown1 hg1 _
        have hb1 : Below w.heap.size w w1 := below_row (by repeat' (first | exact hb | refine below_alloc ?_ _ | refine Below.drew ?_)) (hown.below (by go_grown)) hg1 (by have := hb.size; simp; omega)
        rw [← asks_snoc] at hown1
        go_wp2
        go_roundw
        case rel => exact ⟨k + 1, by omega, by go_num, hown1, hb1⟩
        case measure => simp [intOf]; omega
    · obtain rfl : k = n := by omega
      go_wp2
      go_ret
      exact ⟨⟨_, rfl, hown⟩, hb⟩
end Go.Proofs.Ytdlkncmjkpcnfaa
