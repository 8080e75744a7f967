/- What clepsydralaw21.NetPlays keeps: the net, the law's own list of messages, what it counts. Contracts. -/
import Derived.Test.YtihhepojhoaacaaNetP
namespace Go.Proofs.Ytihhepojhoaacaa
set_option linter.unusedVariables false
set_option linter.unusedSimpArgs false
open Go.ChangeShapes Go.WideShapes Go.ChangeAt Go.RowKit

theorem NetO.far {Fr Fr' S : Nat → Prop} {w0 w w' : World} {b : Nat} {rb : Option Nat} {m : Nat} {C : List Mg} {l s : Int} (h : NetO Fr w0 w b rb m C l s) (k : Sets S w w') (hb : ¬ S b) (hr : ∀ g, rb = some g → ¬ S g)
    (hF : ∀ g, g < w.heap.size → Fr g → b < g → ¬ S g ∧ Fr' g) (hS0 : ∀ g, S g → w0.heap.size ≤ g) : NetO Fr' w0 w' b rb m C l s := by
  obtain ⟨v, M, h1, hv, h3⟩ := h.at_.at_
  have hx : ∀ x ∈ M, ∀ a, x.A = some a → x.L ≠ [] → ¬ S a.block ∧ Fr' a.block := fun x hx a ha hn => hF _ ((h1.rd x hx).1.lt a ha hn) (h1.pd x hx a ha hn) ((h1.rd x hx).2 a ha hn).1
  have h2 := h1.sets k hb (fun g hg => hr g (by rw [← hv]; exact hg)) (fun x hx' a ha hn => (hx x hx' a ha hn).1)
  exact ⟨⟨⟨v, M, ⟨h2.box, h2.own, h2.rd, fun x hx' a ha hn => (hx x hx' a ha hn).2⟩, hv, h3⟩, h.at_.ok⟩, h.old, Sets.below h.low k hS0 h.low.size⟩
/-- Blocks that are neither the law's variables nor its list. -/
def FrP (c6 : Nat) (A : Option Addr) (g : Nat) : Prop := c6 + 4 ≤ g ∧ ∀ a, A = some a → g ≠ a.block
/-- The net, and the law's own list and counts. -/
structure PlH (w0 w : World) (b : Nat) (rb : Option Nat) (m c6 : Nat) (A : Option Addr) (c : Nat) (W : List Mg) (l s : Nat) (C : List Mg) (nl ns : Int) : Prop where
  net : NetO (FrP c6 A) w0 w b rb m C nl ns
  b6 : w.heap[c6]? = some (.cells #[.int .i64 m] 3 (0, 0))
  b7 : w.heap[c6 + 1]? = some (.cells #[.slice A W.length c] 41 (0, 0))
  b8 : w.heap[c6 + 2]? = some (.cells #[.int .i64 l] 3 (0, 0))
  b9 : w.heap[c6 + 3]? = some (.cells #[.int .i64 s] 3 (0, 0))
  far : b < c6
  apart : ∀ g, rb = some g → c6 + 4 ≤ g
  row : RowAt Mg.cells 6 w A W
  cap : W.length ≤ c ∧ c ≤ maxLen
  blk : ∀ a, A = some a → c6 + 4 ≤ a.block ∧ a.block < w.heap.size ∧ rb ≠ some a.block ∧ ∀ o, w.frozen? ⟨a.block, o, none⟩ = false
  rd : ∀ x ∈ W, x.rd w0
section
variable {w0 w w' : World} {b m c6 c l s : Nat} {rb : Option Nat} {A : Option Addr} {W C : List Mg} {nl ns : Int}
theorem PlH.lt (h : PlH w0 w b rb m c6 A c W l s C nl ns) : c6 + 3 < w.heap.size := (Array.getElem?_eq_some_iff.1 h.b9).1
theorem froz_block {w w' : World} {g o : Nat} (h : w'.heap[g]? = w.heap[g]?) : w'.frozen? ⟨g, o, none⟩ = w.frozen? ⟨g, o, none⟩ := by
  simp only [World.frozen?, h]
theorem PlH.below (h : PlH w0 w b rb m c6 A c W l s C nl ns) (hb : Below w.heap.size w w') : PlH w0 w' b rb m c6 A c W l s C nl ns := by
  have hl := h.lt
  exact ⟨h.net.below hb, (hb.block _ (by omega)).trans h.b6, (hb.block _ (by omega)).trans h.b7, (hb.block _ (by omega)).trans h.b8, (hb.block _ (by omega)).trans h.b9, h.far, h.apart, h.row.below hb, h.cap,
    fun a ha => ⟨(h.blk a ha).1, Nat.lt_of_lt_of_le (h.blk a ha).2.1 hb.size, (h.blk a ha).2.2.1, fun o => (froz_block (hb.block _ (h.blk a ha).2.1)).trans ((h.blk a ha).2.2.2 o)⟩, h.rd⟩
theorem PlH.netStep (h : PlH w0 w b rb m c6 A c W l s C nl ns) {rb' : Option Nat} {C' : List Mg} {nl' ns' : Int} (hN : NetO (FrP c6 A) w0 w' b rb' m C' nl' ns') (hS : Sets (NBlk b rb) w w') (hM : MovedB w rb rb') : PlH w0 w' b rb' m c6 A c W l s C' nl' ns' := by
  have hl := h.lt
  have hf := h.far
  have hn : ∀ g, c6 ≤ g → g < c6 + 4 → ¬ NBlk b rb g := fun g h1 h2 e => by
    rcases e with e | e
    · omega
    · have := h.apart g e; omega
  refine ⟨hN, (hS.block _ (by omega) (hn _ (by omega) (by omega))).trans h.b6, (hS.block _ (by omega) (hn _ (by omega) (by omega))).trans h.b7, (hS.block _ (by omega) (hn _ (by omega) (by omega))).trans h.b8, (hS.block _ (by omega) (hn _ (by omega) (by omega))).trans h.b9, h.far, ?_, ?_, h.cap, ?_, h.rd⟩
  · intro g hg
    rcases hM with e | ⟨q, hq, e⟩
    · exact h.apart g (by rw [← e]; exact hg)
    · rw [e] at hg
      obtain rfl := Option.some.inj hg
      omega
  · exact h.row.sets hS (fun a ha _ e => by
      rcases e with e | e
      · have := (h.blk a ha).1; omega
      · exact (h.blk a ha).2.2.1 e)
  · intro a ha
    have h1 := h.blk a ha
    have h2 : ¬ NBlk b rb a.block := fun e => by
      rcases e with e | e
      · omega
      · exact h1.2.2.1 e
    refine ⟨h1.1, Nat.lt_of_lt_of_le h1.2.1 hS.size, fun e => ?_, fun o => (froz_block (hS.block _ h1.2.1 h2)).trans (h1.2.2.2 o)⟩
    rcases hM with e1 | ⟨q, hq, e1⟩
    · exact h1.2.2.1 (by rw [← e1]; exact e)
    · rw [e1] at e
      have := Option.some.inj e
      omega
/-- A new list of the law's own. -/
theorem PlH.put (h : PlH w0 w b rb m c6 A c W l s C nl ns) (hS : Sets (fun k => k = c6 + 1 ∨ k = c6 + 2 ∨ k = c6 + 3) w w') {A' : Option Addr} {c' l' s' : Nat} {N : List Mg}
    (e7 : w'.heap[c6 + 1]? = some (.cells #[.slice A' N.length c'] 41 (0, 0))) (e8 : w'.heap[c6 + 2]? = some (.cells #[.int .i64 l'] 3 (0, 0))) (e9 : w'.heap[c6 + 3]? = some (.cells #[.int .i64 s'] 3 (0, 0)))
    (hr : RowAt Mg.cells 6 w' A' N) (hc : N.length ≤ c' ∧ c' ≤ maxLen) (hA : A' = A ∨ ∀ a, A' = some a → w.heap.size ≤ a.block ∧ a.block < w'.heap.size ∧ ∀ o, w'.frozen? ⟨a.block, o, none⟩ = false) (hN : ∀ x ∈ N, x.rd w0) : PlH w0 w' b rb m c6 A' c' N l' s' C nl ns := by
  have hl := h.lt
  have hf := h.far
  have ho := h.net.old
  have hn : ∀ g, c6 + 4 ≤ g → ¬ (g = c6 + 1 ∨ g = c6 + 2 ∨ g = c6 + 3) := fun g h1 e => by omega
  refine ⟨h.net.far hS (by omega) (fun g hg => hn g (h.apart g hg)) (fun g hg hfr hbg => ⟨hn g hfr.1, hfr.1, fun a ha => ?_⟩) (fun g hg => by omega), (hS.block _ (by omega) (by omega)).trans h.b6, e7, e8, e9, h.far, h.apart, hr, hc, ?_, hN⟩
  · rcases hA with e | e
    · exact hfr.2 a (by rw [← e]; exact ha)
    · have := (e a ha).1; omega
  · intro a ha
    rcases hA with e | e
    · have h1 := h.blk a (by rw [← e]; exact ha)
      exact ⟨h1.1, Nat.lt_of_lt_of_le h1.2.1 hS.size, h1.2.2.1, fun o => (froz_block (hS.block _ h1.2.1 (hn _ h1.1))).trans (h1.2.2.2 o)⟩
    · have h1 := e a ha
      refine ⟨by omega, h1.2.1, fun e2 => ?_, h1.2.2⟩
      have := (h.net.at_.row_lt _ e2).2
      omega
/-- The law's own list written in place. -/
theorem PlH.turn (h : PlH w0 w b rb m c6 A c W l s C nl ns) {g off : Nat} (hA : A = some ⟨g, off, none⟩) (hS : Sets (fun k => k = g) w w') {N : List Mg} (hN : N.length = W.length) (hr : RowAt Mg.cells 6 w' A N) (hz : ∀ o, w'.frozen? ⟨g, o, none⟩ = false) (hrd : ∀ x ∈ N, x.rd w0) : PlH w0 w' b rb m c6 A c N l s C nl ns := by
  have hl := h.lt
  have hf := h.far
  have ho := h.net.old
  have h1 := h.blk _ hA
  simp only at h1
  refine ⟨h.net.far hS (by omega) (fun q hq e => h1.2.2.1 (by rw [← e]; exact hq)) (fun q hq hfr hbg => ⟨fun e => hfr.2 _ hA e, hfr⟩) (fun q hq => by omega), (hS.block _ (by omega) (by omega)).trans h.b6, (hS.block _ (by omega) (by omega)).trans (by rw [hN]; exact h.b7), (hS.block _ (by omega) (by omega)).trans h.b8, (hS.block _ (by omega) (by omega)).trans h.b9, h.far, h.apart, hr, by rw [hN]; exact h.cap, ?_, hrd⟩
  intro a ha
  rw [hA] at ha
  obtain rfl := Option.some.inj ha
  exact ⟨h1.1, Nat.lt_of_lt_of_le h1.2.1 hS.size, h1.2.2.1, hz⟩
theorem sendC_ne {m : Nat} {M : List Mg} {x : Mg} (hm : 1 ≤ m) : sendC m M x ≠ [] := by
  unfold sendC
  by_cases h1 : m < M.length + 1
  · rw [if_pos h1]
    intro h
    have h2 := congrArg List.length h
    rw [List.length_drop, List.length_append, List.length_nil, List.length_singleton] at h2
    omega
  · rw [if_neg h1]
    simp
theorem sendC_mem {m : Nat} {M : List Mg} {x y : Mg} (h : y ∈ sendC m M x) : y ∈ M ∨ y = x := by
  unfold sendC at h
  have h2 : y ∈ M ++ [x] := by
    split at h
    · exact List.mem_of_mem_drop h
    · exact h
  simpa using h2
theorem sendC_map (m : Nat) (M : List Mg) (x : Mg) : (sendC m M x).map Mg.bare = sendC m (M.map Mg.bare) x.bare := by
  unfold sendC
  rw [List.length_map]
  split <;> simp
theorem pl_start {w1 : World} (hN : NetO (fun _ => False) w0 w1 b none m [] 0 0) (wz : World) (hz : (((w1.alloc (.cells #[.int .i64 m] 3)).alloc (.cells #[.slice none 0 0] 41)).alloc (.cells #[.int .i64 0] 3)).alloc (.cells #[.int .i64 0] 3) = wz) : PlH w0 wz b none m w1.heap.size none 0 [] 0 0 ([].map Mg.bare) (0 : Nat) (0 : Nat) := by
  have g1 := heap_alloc_new w1 (.cells #[.int .i64 m] 3)
  have s1 : (w1.alloc (.cells #[.int .i64 m] 3)).heap.size = w1.heap.size + 1 := by simp
  have b1 := below_alloc (Below.refl w1.heap.size w1) (.cells #[.int .i64 m] 3)
  obtain ⟨wa, ha⟩ : ∃ wa, w1.alloc (.cells #[.int .i64 m] 3) = wa := ⟨_, rfl⟩
  rw [ha] at g1 s1 b1 hz
  have g2 := heap_alloc_new wa (.cells #[.slice none 0 0] 41)
  have s2 : (wa.alloc (.cells #[.slice none 0 0] 41)).heap.size = wa.heap.size + 1 := by simp
  have b2 := below_alloc (Below.refl wa.heap.size wa) (.cells #[.slice none 0 0] 41)
  obtain ⟨wb, hb⟩ : ∃ wb, wa.alloc (.cells #[.slice none 0 0] 41) = wb := ⟨_, rfl⟩
  rw [hb] at g2 s2 b2 hz
  have g3 := heap_alloc_new wb (.cells #[.int .i64 0] 3)
  have s3 : (wb.alloc (.cells #[.int .i64 0] 3)).heap.size = wb.heap.size + 1 := by simp
  have b3 := below_alloc (Below.refl wb.heap.size wb) (.cells #[.int .i64 0] 3)
  obtain ⟨wc, hc⟩ : ∃ wc, wb.alloc (.cells #[.int .i64 0] 3) = wc := ⟨_, rfl⟩
  rw [hc] at g3 s3 b3 hz
  have g4 := heap_alloc_new wc (.cells #[.int .i64 0] 3)
  have b4 := below_alloc (Below.refl wc.heap.size wc) (.cells #[.int .i64 0] 3)
  rw [hz] at g4 b4
  rw [s3, s2, s1] at g4
  rw [s2, s1] at g3
  rw [s1] at g2
  have hN1 : NetO (FrP w1.heap.size none) w0 w1 b none m [] 0 0 := hN.far (S := fun _ => False) (Sets.of (Below.refl _ _)) (fun h => h) (fun g hg => by cases hg) (fun g _ h => h.elim) (fun g h => h.elim)
  exact ⟨hN1.below (below_step (below_step (below_step b1 b2) b3) b4), (b4.block _ (by omega)).trans ((b3.block _ (by omega)).trans ((b2.block _ (by omega)).trans g1)), (b4.block _ (by omega)).trans ((b3.block _ (by omega)).trans g2), (b4.block _ (by omega)).trans g3, g4,
    hN.at_.lt, fun g hg => (by cases hg), RowAt.nil_, ⟨Nat.le_refl 0, by unfold maxLen; omega⟩, fun a ha => (by cases ha), fun x hx => (by cases hx)⟩
/-- The law's own send. -/
theorem sendc_pl (h : PlH w0 w b rb m c6 A c W l s C nl ns) (hm : 1 ≤ m) (x : Mg) (hx : x.rd w0) (hW : W.length ≤ 100000) (hl : l ≤ 1000000) (hs : s ≤ 1000000) :
    Calls Try.prog 17 #[x.val, .pointer (some ⟨c6 + 3, 0, none⟩), .pointer (some ⟨c6 + 1, 0, none⟩), .pointer (some ⟨c6, 0, none⟩), .pointer (some ⟨c6 + 2, 0, none⟩)] w fun e w' => e = .returned (.tuple #[]) ∧ ∃ (A' : Option Addr) (c' q : Nat), (q : Int) = sendL m W ∧ PlH w0 w' b rb m c6 A' c' (sendC m W x) (l + q) (s + 1) C nl ns := by
  refine Calls.mono (sendc_any x c6 (c6 + 1) (c6 + 2) (c6 + 3) (by omega) (by omega) (by omega) (by omega) (by omega) (by omega) m A c W l s w h.b6 h.b7 h.b8 h.b9 h.row hW hl hs) ?_
  rintro e w' ⟨rfl, A', c', N, q, e7, e8, e9, hr, hc1, hc2, rfl, hq, hA, hS⟩
  refine ⟨rfl, A', c', q, hq, h.put hS e7 e8 e9 hr ⟨hc1, hc2⟩ (.inr fun a ha => ⟨(hA a ha).1, ?_, (hA a ha).2⟩) (fun y hy => ?_)⟩
  · obtain ⟨g, off, e, hlt, _⟩ := hr (sendC_ne hm)
    rw [e] at ha
    obtain rfl := Option.some.inj ha
    exact hlt
  · rcases sendC_mem hy with h1 | rfl
    · exact h.rd y h1
    · exact hx
/-- The net's send, of a message of the law's arguments. -/
theorem send_pl (h : PlH w0 w b rb m c6 A c W l s C nl ns) (x : Mg) (hx : x.rd w0) (hk : mokB x = true) (hC : C.length ≤ 100000) (hl : 0 ≤ nl ∧ nl ≤ 1099511627776) (hs : 0 ≤ ns ∧ ns ≤ 1099511627776) :
    Calls Try.prog 8 #[.pointer (some ⟨b, 0, none⟩), x.val] w fun e w' => ∃ rb', e = .returned (.bool true) ∧ PlH w0 w' b rb' m c6 A c W l s (sendC m C x.bare) (nl + sendL m C) (ns + 1) ∧ Sets (NBlk b rb) w w' := by
  refine Calls.mono (send_o (fun g hg => ⟨by have := h.lt; omega, fun a ha => by have := (h.blk a ha).2.1; omega⟩) h.net x (hx.below h.net.low) (fun a ha hn e => ?_) hk hC hl hs) ?_
  · have h1 := hx.lt a ha hn
    have h2 := h.net.old
    rcases e with e | e
    · omega
    · have := (h.net.at_.row_lt _ e).1; omega
  · rintro e w' ⟨rb', rfl, hN, hS, hM⟩
    exact ⟨rb', rfl, h.netStep hN hS hM, hS⟩
end
/-- A script's call in a variable of its own. -/
theorem op_cells {w : World} {g : Nat} {v0 v1 v2 v3 v4 v5 v6 v7 v8 : Value} {t : TypeId} {fr : Nat × Nat} (e : w.heap[g]? = some (.cells #[v0, v1, v2, v3, v4, v5, v6, v7, v8] t fr)) :
    w.cell? ⟨g, 0, none⟩ = some v0 ∧ w.cell? ⟨g, 1, none⟩ = some v1 ∧ w.cell? ⟨g, 2, none⟩ = some v2 ∧ w.cell? ⟨g, 3, none⟩ = some v3 ∧ w.cell? ⟨g, 4, none⟩ = some v4 ∧ w.cell? ⟨g, 5, none⟩ = some v5 ∧ w.cell? ⟨g, 6, none⟩ = some v6 ∧ w.cell? ⟨g, 7, none⟩ = some v7 ∧ w.cell? ⟨g, 8, none⟩ = some v8 :=
  ⟨(cell_of_row w g 0 _ _ _ e).trans rfl, (cell_of_row w g 1 _ _ _ e).trans rfl, (cell_of_row w g 2 _ _ _ e).trans rfl, (cell_of_row w g 3 _ _ _ e).trans rfl, (cell_of_row w g 4 _ _ _ e).trans rfl, (cell_of_row w g 5 _ _ _ e).trans rfl, (cell_of_row w g 6 _ _ _ e).trans rfl, (cell_of_row w g 7 _ _ _ e).trans rfl, (cell_of_row w g 8 _ _ _ e).trans rfl⟩
/-- No row of items lies in a message's variable. -/
theorem items_not_msg {w : World} {g : Nat} {v0 v1 v3 v4 : Value} {i2 : Int} {A5 : Option Addr} {n5 c5 : Nat} {t : TypeId} {fr : Nat × Nat} (e : w.heap[g]? = some (.cells #[v0, v1, .int .i64 i2, v3, v4, .slice A5 n5 c5] t fr)) {A : Option Addr} {L : List It} (h : ItemsAt w A L) (a : Addr) (ha : A = some a) (hn : L ≠ []) : a.block ≠ g := by
  obtain ⟨b, off, rfl, hlt, hc⟩ := h hn
  obtain rfl := Option.some.inj ha
  intro eg
  simp only at eg
  subst eg
  have hp : 0 < L.length := List.length_pos_iff.2 hn
  have h2 := hc 0 hp 2 _ rfl
  have h4 := hc 0 hp 4 _ rfl
  have h5 : ∀ j, w.cell? ⟨b, j, none⟩ = #[v0, v1, Value.int .i64 i2, v3, v4, .slice A5 n5 c5][j]? := fun j => cell_of_row w b j _ _ _ e
  rw [h5] at h2 h4
  match off, h2, h4 with
  | 0, h2, _ => simp at h2
  | 1, _, h4 => simp at h4
  | (k + 2), _, h4 => simp at h4
theorem sendL_map (m : Nat) (M : List Mg) : sendL m (M.map Mg.bare) = sendL m M := by unfold sendL; rw [List.length_map]
theorem sendC_le (m : Nat) (M : List Mg) (x : Mg) : (sendC m M x).length ≤ M.length + 1 := by
  unfold sendC
  split
  · rw [List.length_drop, List.length_append, List.length_singleton]; omega
  · rw [List.length_append, List.length_singleton]; omega
theorem sendL_le (m : Nat) (M : List Mg) : 0 ≤ sendL m M ∧ sendL m M ≤ 1 := by unfold sendL; split <;> omega
end Go.Proofs.Ytihhepojhoaacaa
