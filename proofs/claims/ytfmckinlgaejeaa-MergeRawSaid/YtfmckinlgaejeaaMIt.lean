/- merge.Iter: the rows opened: contracts. Conditions: the iterator as it lies. -/
import Derived.Test.YtfmckinlgaejeaaOnce
import Derived.Test.YtfmckinlgaejeaaSets
import Derived.Test.YtfmckinlgaejeaaJ
import Derived.Test.YtfmckinlgaejeaaMRows
namespace Go.Proofs.Ytfmckinlgaejeaa
set_option linter.unusedVariables false
set_option linter.unusedSimpArgs false
open Go.ChangeShapes Go.WideShapes Go.ChangeAt Go.RowKit

/-- An iterator's block: its rows, whether they are opened, what they made, the place. -/
def itC (u : Value) (d : Int) (v : Value) (n : Int) : Array Value := #[u, .int .u32 d, .int .i32 0, .int .u32 0, v, .int .i64 n]
theorem it_box {w : World} {b : Nat} {u v : Value} {d n : Int} {t : TypeId} (h : w.heap[b]? = some (.cells (itC u d v n) t (0, 0))) : b < w.heap.size ∧
    (w.cell? ⟨b, 0, none⟩ = some u ∧ w.cell? ⟨b, 1, none⟩ = some (.int .u32 d) ∧ w.cell? ⟨b, 2, none⟩ = some (.int .i32 0) ∧ w.cell? ⟨b, 3, none⟩ = some (.int .u32 0) ∧ w.cell? ⟨b, 4, none⟩ = some v ∧ w.cell? ⟨b, 5, none⟩ = some (.int .i64 n)) ∧
    ∀ o, w.frozen? ⟨b, o, none⟩ = false :=
  ⟨(Array.getElem?_eq_some_iff.1 h).1, six_cells h, fun o => by simp [World.frozen?, h]⟩
/-- Items do not lie in an iterator's block. -/
theorem items_off2 {w : World} {b : Nat} {u1 v1 : Option Addr} {u2 u3 v2 v3 : Nat} {x1 x2 x3 n : Int} {t : TypeId} (h : w.heap[b]? = some (.cells #[.slice u1 u2 u3, .int .u32 x1, .int .i32 x2, .int .u32 x3, .slice v1 v2 v3, .int .i64 n] t (0, 0))) {A : Option Addr} {L : List It} (hL : ItemsAt w A L) : ∀ a, A = some a → L ≠ [] → ¬ a.block = b := by
  intro a ha hn e
  obtain ⟨b', off, e', hlt, hc⟩ := hL hn
  rw [ha] at e'
  obtain rfl := Option.some.inj e'
  subst e
  have hp := List.length_pos_iff.2 hn
  have h0 := hc 0 hp 0 _ rfl
  have h1 := hc 0 hp 1 _ rfl
  simp only [Nat.zero_mul, Nat.add_zero] at h0 h1
  rw [cell_of_row w b' _ _ _ _ h] at h0 h1
  match off, h0, h1 with
  | 0, h0, h1 => simp at h0
  | 1, h0, h1 => simp at h0
  | 2, h0, h1 => simp at h0
  | 3, h0, h1 => simp at h0
  | 4, h0, h1 => simp at h0
  | 5, h0, h1 => simp at h1
  | k + 6, h0, h1 => simp at h0
/-- Rows in memory, apart from a block. -/
structure RowsX (w : World) (b : Nat) (A : Option Addr) (R : List (Sv It)) : Prop where
  row : RowAt svC 1 w A R
  ne : ∀ a, A = some a → R ≠ [] → ¬ a.block = b
  rd : ∀ r ∈ R, ItemsAt w r.A r.L ∧ r.L.length ≤ r.c ∧ r.c ≤ maxLen ∧ ∀ a, r.A = some a → r.L ≠ [] → ¬ a.block = b
theorem RowsX.below {w w' : World} {b : Nat} {A : Option Addr} {R : List (Sv It)} (h : RowsX w b A R) (hb : Below w.heap.size w w') : RowsX w' b A R :=
  ⟨h.row.below hb, h.ne, fun r hr => by obtain ⟨h1, h2⟩ := h.rd r hr; exact ⟨h1.below hb, h2⟩⟩
theorem RowsX.sets {w w' : World} {b : Nat} {A : Option Addr} {R : List (Sv It)} (h : RowsX w b A R) (k : Sets (fun c => c = b) w w') : RowsX w' b A R :=
  ⟨h.row.sets k h.ne, h.ne, fun r hr => by obtain ⟨h1, h2, h3, h4⟩ := h.rd r hr; exact ⟨h1.sets k h4, h2, h3, h4⟩⟩
set_option maxRecDepth 100000 in
set_option maxHeartbeats 1600000 in
theorem openc_any (b : Nat) (pl : Nat) (hne : ¬ b = pl) (A : Option Addr) (c : Nat) (R : List (Sv It)) (w : World) (hp : w.cell? ⟨pl, 0, none⟩ = some (.pointer (some ⟨b, 0, none⟩))) (hpl : pl < w.heap.size)
    (h0 : w.cell? ⟨b, 0, none⟩ = some (.slice A R.length c)) (h4 : w.cell? ⟨b, 4, none⟩ = some (.slice none 0 0)) (hz : ∀ o, w.frozen? ⟨b, o, none⟩ = false) (hbl : b < w.heap.size) (hR : RowsX w b A R) (hn : R.length ≤ 1000000) (hs : lenR (lsR R) ≤ 100000000) :
    Calls Try.prog 42 #[.pointer (some ⟨pl, 0, none⟩)] w fun e w' => e = .returned (.tuple #[]) ∧ ∃ v W, Sl W v (mrgG (lenR (lsR R)) (lsR R) []) ∧ (∀ a n c, v = .slice (some a) n c → w.heap.size ≤ a.block) ∧ Below w.heap.size w W ∧ w' = W.setCell ⟨b, 4, none⟩ v := by
  have HC : Hid (∀ W : World, Below w.drew.heap.size w.drew W → W.cell? ⟨pl, 0, none⟩ = some (.pointer (some ⟨b, 0, none⟩)) ∧ W.cell? ⟨b, 0, none⟩ = some (.slice A R.length c) ∧ W.cell? ⟨b, 4, none⟩ = some (.slice none 0 0) ∧ W.frozen? ⟨b, 4, none⟩ = false) :=
    hide (fun W hW => ⟨keep_cell hW hp hpl, keep_cell hW h0 hbl, keep_cell hW h4 hbl, (hW.frozen (p := ⟨b, 4, none⟩) hbl).trans (hz 4)⟩)
  have HR := hide (mrows_new A c R w.drew (hR.row.below (Below.refl _ _).drew) (fun r hr => by obtain ⟨h1, h2, h3, _⟩ := hR.rd r hr; exact ⟨h1.below (Below.refl _ _).drew, h2, h3⟩) hn hs)
  generalize mrgG (lenR (lsR R)) (lsR R) [] = M at *
  clear hp h0 h4 hz hR hs
  go_enter Try.func42, Try.ntmps42
  go_upto_region 0 with fail
  refine j_start [8] (by kernel_rfl) ?_
  refine' j_take (i := 0) (v := _) [6, 7, 8] ?hi0 (by kernel_rfl) (by kernel_rfl) (by kernel_rfl) (by kernel_rfl) (by kernel_rfl) (Or.inl ⟨?hw0, ?hy0⟩) ?rest0
  case hi0 => (simp only [List.getElem?_toArray, List.getElem?_cons_succ, List.getElem?_cons_zero]; rfl)
  case hw0 => rfl
  case hy0 => (intro w' hw'; have h0 := (HC.out _ hw').1; go_simp; try with_reducible rfl)
  try simp only [Act.put, List.setIfInBounds_toArray, List.set_cons_zero, List.set_cons_succ]
  refine' j_take (i := 1) (v := _) [2, 3, 4, 5, 6, 7, 8] ?hi1 (by kernel_rfl) (by kernel_rfl) (by kernel_rfl) (by kernel_rfl) (by kernel_rfl) (Or.inl ⟨?hw1, ?hy1⟩) ?rest1
  case hi1 => (simp only [List.getElem?_toArray, List.getElem?_cons_succ, List.getElem?_cons_zero]; rfl)
  case hw1 => rfl
  case hy1 => (intro w' hw'; have h0 := (HC.out _ hw').1; go_simp; try with_reducible rfl)
  try simp only [Act.put, List.setIfInBounds_toArray, List.set_cons_zero, List.set_cons_succ]
  refine' j_take (i := 2) (v := _) [3, 4, 5, 6, 7, 8] ?hi2 (by kernel_rfl) (by kernel_rfl) (by kernel_rfl) (by kernel_rfl) (by kernel_rfl) (Or.inl ⟨?hw2, ?hy2⟩) ?rest2
  case hi2 => (simp only [List.getElem?_toArray, List.getElem?_cons_succ, List.getElem?_cons_zero]; rfl)
  case hw2 => rfl
  case hy2 => (intro w' hw'; go_simp; try with_reducible rfl)
  try simp only [Act.put, List.setIfInBounds_toArray, List.set_cons_zero, List.set_cons_succ]
  refine' j_take (i := 3) (v := _) [4, 5, 6, 7, 8] ?hi3 (by kernel_rfl) (by kernel_rfl) (by kernel_rfl) (by kernel_rfl) (by kernel_rfl) (Or.inl ⟨?hw3, ?hy3⟩) ?rest3
  case hi3 => (simp only [List.getElem?_toArray, List.getElem?_cons_succ, List.getElem?_cons_zero]; rfl)
  case hw3 => rfl
  case hy3 => (intro w' hw'; go_simp; try with_reducible rfl)
  try simp only [Act.put, List.setIfInBounds_toArray, List.set_cons_zero, List.set_cons_succ]
  refine' j_take (i := 4) (v := _) [5, 6, 7, 8] ?hi4 (by kernel_rfl) (by kernel_rfl) (by kernel_rfl) (by kernel_rfl) (by kernel_rfl) (Or.inl ⟨?hw4, ?hy4⟩) ?rest4
  case hi4 => (simp only [List.getElem?_toArray, List.getElem?_cons_succ, List.getElem?_cons_zero]; rfl)
  case hw4 => rfl
  case hy4 => (intro w' hw'; have h0 := (HC.out _ hw').2.1; go_simp; try with_reducible rfl)
  try simp only [Act.put, List.setIfInBounds_toArray, List.set_cons_zero, List.set_cons_succ]
  refine' wpAnyJ_step (i := 5) (o := _) (by kernel_rfl) ?ho5 (fun K hK => ?step5)
  case ho5 => (simp only [List.getElem?_toArray, List.getElem?_cons_succ, List.getElem?_cons_zero]; rfl)
  go_simp
  refine (Calls.mono (HR.out) ?_); rintro e u1 ⟨_, rfl, ⟨⟨A1, c1, rfl, hs1, hs2, hs3⟩, hnew⟩, gg⟩
  have HS := hide (Sl.mk_ hs1 hs2 hs3)
  have HGG := hide gg
  have HNW := hide hnew
  clear hs1 hs2 hs3 hnew
  refine hK.out _ _ gg (j_switch gg ?_)
  clear hK K gg
  try simp only [Act.put, List.setIfInBounds_toArray, List.set_cons_zero, List.set_cons_succ]
  refine' j_take (i := 6) (v := _) [7, 8] ?hi6 (by kernel_rfl) (by kernel_rfl) (by kernel_rfl) (by kernel_rfl) (by kernel_rfl) (Or.inl ⟨?hw6, ?hy6⟩) ?rest6
  case hi6 => (simp only [List.getElem?_toArray, List.getElem?_cons_succ, List.getElem?_cons_zero]; rfl)
  case hw6 => rfl
  case hy6 => (intro w' hw'; go_simp; try with_reducible rfl)
  try simp only [Act.put, List.setIfInBounds_toArray, List.set_cons_zero, List.set_cons_succ]
  refine' j_take (i := 7) (v := _) [8] ?hi7 (by kernel_rfl) (by kernel_rfl) (by kernel_rfl) (by kernel_rfl) (by kernel_rfl) (Or.inl ⟨?hw7, ?hy7⟩) ?rest7
  case hi7 => (simp only [List.getElem?_toArray, List.getElem?_cons_succ, List.getElem?_cons_zero]; rfl)
  case hw7 => rfl
  case hy7 => (intro w' hw'; go_simp; try with_reducible rfl)
  try simp only [Act.put, List.setIfInBounds_toArray, List.set_cons_zero, List.set_cons_succ]
  refine' wpAnyJ_last (i := 8) (o := _) (by kernel_rfl) ?ho8 (by kernel_rfl) (fun K hK => ?step8)
  case ho8 => (simp only [List.getElem?_toArray, List.getElem?_cons_succ, List.getElem?_cons_zero]; rfl)
  obtain ⟨_, _, c4, f4⟩ := HC.out _ HGG.out
  go_simp
  refine hK.out _ _ ?_
  clear hK K
  try simp only [Act.put, List.setIfInBounds_toArray, List.set_cons_zero, List.set_cons_succ]
  refine wpAnyJ_done (by kernel_rfl) ?_ _
  refine NoPanic.normal ?_
  go_wp2_with fail
  go_end0
  exact ⟨rfl, _, _, HS.out, HNW.out, (((Below.refl _ w).drew).mono (Nat.le_refl _)).trans HGG.out, rfl⟩
end Go.Proofs.Ytfmckinlgaejeaa
