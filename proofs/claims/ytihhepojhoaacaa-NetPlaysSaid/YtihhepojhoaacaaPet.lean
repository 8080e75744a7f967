/- net.Net: New, Len, Lost, Sent, has, Take: contracts. Conditions: the net as it lies. -/
import Derived.Test.YtihhepojhoaacaaMDel
import Derived.BigQuiet
namespace Go.Proofs.Ytihhepojhoaacaa
set_option linter.unusedVariables false
set_option linter.unusedSimpArgs false
open Go.ChangeShapes Go.WideShapes Go.ChangeAt Go.RowKit
variable {Fr : Nat → Prop}

theorem iadd_any (b o : Nat) (n y : Int) (w : World) (h : w.cell? ⟨b, o, none⟩ = some (.int .i64 n)) (hz : w.frozen? ⟨b, o, none⟩ = false) (hs : IntKind.i64.wrap (n + y) = n + y) :
    Calls Try.prog 23 #[.pointer (some ⟨b, o, none⟩), .int .i64 y] w fun e w' => e = .returned (.int .i64 (n + y)) ∧ w' = w.setCell ⟨b, o, none⟩ (.int .i64 (n + y)) := by
  have hadd := run_call_add (P := Try.prog) Try.func33 (by kernel_rfl) (by kernel_rfl) (by kernel_rfl) .i64 (by kernel_rfl) (y := y) (s := n + y) h hz (by simp [go_sem, hs])
  go_enter Try.func23, Try.ntmps23
  go_wp2
  go_ret
  exact ⟨rfl, rfl⟩
theorem iload_any (b o : Nat) (n : Int) (w : World) (h : w.cell? ⟨b, o, none⟩ = some (.int .i64 n)) :
    Calls Try.prog 27 #[.pointer (some ⟨b, o, none⟩)] w fun e w' => e = .returned (.int .i64 n) ∧ w' = w := by
  have hl := run_call_load (P := Try.prog) Try.func34 (by kernel_rfl) (by kernel_rfl) (by kernel_rfl) .i64 (by kernel_rfl) h
  go_enter Try.func27, Try.ntmps27
  go_wp2
  go_ret
  exact ⟨rfl, rfl⟩
/-- What a message says. -/
def Mg.bare (m : Mg) : Mg := { m with A := none, c := 0 }
theorem bare_same (m : Mg) : Mg.same m m.bare := ⟨rfl, rfl, rfl, rfl, rfl, rfl⟩
theorem bare_eq {a b : Mg} (h : Mg.same a b) : a.bare = b.bare := by
  obtain ⟨h1, h2, h3, h4, h5, h6⟩ := h
  unfold Mg.bare
  rw [h1, h2, h3, h4, h5, h6]
/-- A net's block: how many it may hold, its messages, how many were lost, how many were sent. -/
def nwC (m : Int) (v : Value) (a b : Int) : Array Value := #[.int .i64 m, v, .int .i64 a, .int .i64 b]
theorem nw_box {w : World} {b : Nat} {v : Value} {m l s : Int} {t : TypeId} (h : w.heap[b]? = some (.cells (nwC m v l s) t (0, 0))) : b < w.heap.size ∧
    (w.cell? ⟨b, 0, none⟩ = some (.int .i64 m) ∧ w.cell? ⟨b, 1, none⟩ = some v ∧ w.cell? ⟨b, 2, none⟩ = some (.int .i64 l) ∧ w.cell? ⟨b, 3, none⟩ = some (.int .i64 s)) ∧ ∀ o, w.frozen? ⟨b, o, none⟩ = false :=
  ⟨(Array.getElem?_eq_some_iff.1 h).1, ⟨(cell_of_row w b 0 _ _ _ h).trans rfl, (cell_of_row w b 1 _ _ _ h).trans rfl, (cell_of_row w b 2 _ _ _ h).trans rfl, (cell_of_row w b 3 _ _ _ h).trans rfl⟩, fun o => by simp [World.frozen?, h]⟩
theorem nw_put1 {w : World} {b : Nat} {v : Value} {m l s : Int} {t : TypeId} (u : Value) (h : w.heap[b]? = some (.cells (nwC m v l s) t (0, 0))) : (w.setCell ⟨b, 1, none⟩ u).heap[b]? = some (.cells (nwC m u l s) t (0, 0)) := by
  simp [World.setCell, Array.getElem?_modify, h, nwC]
theorem nw_put2 {w : World} {b : Nat} {v : Value} {m l s : Int} {t : TypeId} (x : Int) (h : w.heap[b]? = some (.cells (nwC m v l s) t (0, 0))) : (w.setCell ⟨b, 2, none⟩ (.int .i64 x)).heap[b]? = some (.cells (nwC m v x s) t (0, 0)) := by
  simp [World.setCell, Array.getElem?_modify, h, nwC]
theorem nw_put3 {w : World} {b : Nat} {v : Value} {m l s : Int} {t : TypeId} (x : Int) (h : w.heap[b]? = some (.cells (nwC m v l s) t (0, 0))) : (w.setCell ⟨b, 3, none⟩ (.int .i64 x)).heap[b]? = some (.cells (nwC m v l x) t (0, 0)) := by
  simp [World.setCell, Array.getElem?_modify, h, nwC]
/-- A net in memory, its row given. -/
structure NetV (Fr : Nat → Prop) (w : World) (b : Nat) (v : Value) (m : Nat) (M : List Mg) (l s : Int) : Prop where
  box : w.heap[b]? = some (.cells (nwC m v l s) 52 (0, 0))
  own : OwnL Mg.cells 6 28 (b + 1) w v M
  rd : ∀ x ∈ M, x.rd w ∧ ∀ a, x.A = some a → x.L ≠ [] → b < a.block ∧ v.ownBlock ≠ some a.block
  pd : ∀ x ∈ M, ∀ a, x.A = some a → x.L ≠ [] → Fr a.block
/-- A net: where its row lies, what its messages say. -/
structure NetW (Fr : Nat → Prop) (w : World) (b : Nat) (rb : Option Nat) (m : Nat) (C : List Mg) (l s : Int) : Prop where
  at_ : ∃ v M, NetV Fr w b v m M l s ∧ v.ownBlock = rb ∧ M.map Mg.bare = C
  ok : ∀ c ∈ C, mokB c = true
/-- The blocks that a net writes. -/
def NBlk (b : Nat) (rb : Option Nat) (c : Nat) : Prop := c = b ∨ rb = some c
/-- A row's block: the same one, or a new one. -/
def MovedB (w : World) (rb rb' : Option Nat) : Prop := rb' = rb ∨ ∃ g, w.heap.size ≤ g ∧ rb' = some g
theorem NetV.below {w w' : World} {b : Nat} {v : Value} {m : Nat} {M : List Mg} {l s : Int} (h : NetV Fr w b v m M l s) (hb : Below w.heap.size w w') : NetV Fr w' b v m M l s :=
  ⟨(hb.block b (Array.getElem?_eq_some_iff.1 h.box).1).trans h.box, OwnL.below h.own hb, fun x hx => ⟨(h.rd x hx).1.below hb, (h.rd x hx).2⟩, h.pd⟩
theorem NetW.below {w w' : World} {b : Nat} {rb : Option Nat} {m : Nat} {C : List Mg} {l s : Int} (h : NetW Fr w b rb m C l s) (hb : Below w.heap.size w w') : NetW Fr w' b rb m C l s := by
  obtain ⟨v, M, h1, h2, h3⟩ := h.at_
  exact ⟨⟨v, M, h1.below hb, h2, h3⟩, h.ok⟩
theorem NetW.lt {w : World} {b : Nat} {rb : Option Nat} {m : Nat} {C : List Mg} {l s : Int} (h : NetW Fr w b rb m C l s) : b < w.heap.size := by
  obtain ⟨v, M, h1, h2, h3⟩ := h.at_
  exact (Array.getElem?_eq_some_iff.1 h1.box).1
theorem NetW.row_lt {w : World} {b : Nat} {rb : Option Nat} {m : Nat} {C : List Mg} {l s : Int} (h : NetW Fr w b rb m C l s) : ∀ g, rb = some g → b < g ∧ g < w.heap.size := by
  obtain ⟨v, M, h1, rfl, h3⟩ := h.at_
  intro g hg
  have := OwnL.lt h1.own g hg
  exact ⟨by omega, this.2⟩
theorem NetW.blk_lt {w : World} {b : Nat} {rb : Option Nat} {m : Nat} {C : List Mg} {l s : Int} (h : NetW Fr w b rb m C l s) {c : Nat} (hc : NBlk b rb c) : b ≤ c ∧ c < w.heap.size := by
  rcases hc with rfl | hc
  · exact ⟨Nat.le_refl _, h.lt⟩
  · have := h.row_lt c hc; exact ⟨by omega, this.2⟩
theorem NetV.slice {w : World} {b : Nat} {v : Value} {m : Nat} {M : List Mg} {l s : Int} (h : NetV Fr w b v m M l s) : ∃ A c, v = .slice A M.length c ∧ RowAt Mg.cells 6 w A M ∧ M.length ≤ c ∧ c ≤ maxLen := by
  obtain ⟨A, c, e, hr, _, h1, h2⟩ := OwnL.row Mg.cells_len h.own
  exact ⟨A, c, e, hr, h1, h2⟩
def capN (n : Int) : Nat := (min (max n 1) 1000).toNat
set_option maxRecDepth 100000 in
set_option maxHeartbeats 1000000 in
theorem nnew_any (n : Int) (w : World) : Calls Try.prog 7 #[.int .i64 n] w fun e w' => ∃ b, e = .returned (.pointer (some ⟨b, 0, none⟩)) ∧ NetW Fr w' b none (capN n) [] 0 0 ∧ w.heap.size ≤ b ∧ Below w.heap.size w w' := by
  have hb := below_alloc (Below.refl w.heap.size w) (.cells (nwC (capN n) (.slice none 0 0) 0 0) 52)
  have HB := hide hb
  have HN : Hid (NetW Fr (w.alloc (.cells (nwC (capN n) (.slice none 0 0) 0 0) 52)) w.heap.size none (capN n) [] 0 0) := hide ⟨⟨.slice none 0 0, [], ⟨heap_alloc_new w _, OwnL.nil_ _ _ _ _ _, fun x hx => (by cases hx), fun x hx => (by cases hx)⟩, rfl, rfl⟩, fun x hx => by cases hx⟩
  unfold nwC at HB HN
  have HC : Hid (((capN n : Nat) : Int) = min (max n 1) 1000) := hide (by unfold capN; omega)
  rw [HC.out] at HB HN
  clear hb
  by_cases h1 : 1 < n
  · have hm : max n 1 = n := by omega
    rw [hm] at HB HN
    have d1 : ¬ n < 1 := by omega
    have d1' : 1 ≤ n := by omega
    by_cases h2 : n < 1000
    · have hm2 : min n 1000 = n := by omega
      rw [hm2] at HB HN
      have d2 : n ≤ 1000 := by omega
      have d3 : ¬ 1000 < n := by omega
      go_enter Try.func7, Try.ntmps7
      go_wp2_with fail
      go_ret
      exact ⟨_, rfl, HN.out, Nat.le_refl _, HB.out⟩
    · have hm2 : min n 1000 = 1000 := by omega
      rw [hm2] at HB HN
      by_cases h3 : n = 1000
      · subst h3
        go_enter Try.func7, Try.ntmps7
        go_wp2_with fail
        go_ret
        exact ⟨_, rfl, HN.out, Nat.le_refl _, HB.out⟩
      have d3 : 1000 ≤ n := by omega
      have d4 : ¬ n ≤ 1000 := by omega
      have d5 : 1000 < n := by omega
      go_enter Try.func7, Try.ntmps7
      go_wp2_with fail
      go_ret
      exact ⟨_, rfl, HN.out, Nat.le_refl _, HB.out⟩
  · have hm : max n 1 = 1 := by omega
    rw [hm] at HB HN
    have hm2 : min (1 : Int) 1000 = 1 := by omega
    rw [hm2] at HB HN
    by_cases h3 : n = 1
    · subst h3
      go_enter Try.func7, Try.ntmps7
      go_wp2_with fail
      go_ret
      exact ⟨_, rfl, HN.out, Nat.le_refl _, HB.out⟩
    have d1 : n ≤ 1 := by omega
    have d4 : ¬ 1 ≤ n := by omega
    have d5 : n < 1 := by omega
    go_enter Try.func7, Try.ntmps7
    go_wp2_with fail
    go_ret
    exact ⟨_, rfl, HN.out, Nat.le_refl _, HB.out⟩
theorem nlen_any {w : World} {b : Nat} {rb : Option Nat} {m : Nat} {C : List Mg} {l s : Int} (h : NetW Fr w b rb m C l s) : Calls Try.prog 9 #[.pointer (some ⟨b, 0, none⟩)] w fun e w' => e = .returned (.int .i64 C.length) ∧ w' = w := by
  obtain ⟨v, M, h1, _, rfl⟩ := h.at_
  obtain ⟨A, c, rfl, _⟩ := h1.slice
  obtain ⟨_, ⟨q0, q1, q2, q3⟩, _⟩ := nw_box h1.box
  rw [List.length_map]
  clear h h1
  go_enter Try.func9, Try.ntmps9
  go_wp2_with fail
  go_ret
  exact ⟨rfl, rfl⟩
theorem nlost_any {w : World} {b : Nat} {rb : Option Nat} {m : Nat} {C : List Mg} {l s : Int} (h : NetW Fr w b rb m C l s) : Calls Try.prog 11 #[.pointer (some ⟨b, 0, none⟩)] w fun e w' => e = .returned (.int .i64 l) ∧ w' = w := by
  obtain ⟨v, M, h1, _, rfl⟩ := h.at_
  obtain ⟨_, ⟨q0, q1, q2, q3⟩, _⟩ := nw_box h1.box
  have HI := hide (iload_any b 2 l w q2)
  clear h h1
  go_enter Try.func11, Try.ntmps11
  go_wp2_with fail
  refine (Calls.mono HI.out ?_); rintro e w1 ⟨rfl, rfl⟩
  go_wp2_with fail
  go_ret
  exact ⟨rfl, rfl⟩
theorem nsent_any {w : World} {b : Nat} {rb : Option Nat} {m : Nat} {C : List Mg} {l s : Int} (h : NetW Fr w b rb m C l s) : Calls Try.prog 13 #[.pointer (some ⟨b, 0, none⟩)] w fun e w' => e = .returned (.int .i64 s) ∧ w' = w := by
  obtain ⟨v, M, h1, _, rfl⟩ := h.at_
  obtain ⟨_, ⟨q0, q1, q2, q3⟩, _⟩ := nw_box h1.box
  have HI := hide (iload_any b 3 s w q3)
  clear h h1
  go_enter Try.func13, Try.ntmps13
  go_wp2_with fail
  refine (Calls.mono HI.out ?_); rintro e w1 ⟨rfl, rfl⟩
  go_wp2_with fail
  go_ret
  exact ⟨rfl, rfl⟩
/-- Whether there is an i-th of n. -/
def hasB (n : Nat) (i : Int) : Bool := decide (0 ≤ i) && decide (i < (n : Int))
theorem has_any {w : World} {b : Nat} {A : Option Addr} {n c : Nat} (i : Int) (h : w.cell? ⟨b, 1, none⟩ = some (.slice A n c)) : Calls Try.prog 25 #[.pointer (some ⟨b, 0, none⟩), .int .i64 i] w fun e w' => e = .returned (.bool (hasB n i)) ∧ w' = w := by
  by_cases h0 : 0 ≤ i
  · by_cases h1 : i < (n : Int)
    · have HV : Hid (hasB n i = true) := hide (by simp [hasB, h0, h1])
      rw [HV.out]
      go_enter Try.func25, Try.ntmps25
      go_wp2_with fail
      go_ret
      exact ⟨rfl, rfl⟩
    · have HV : Hid (hasB n i = false) := hide (by simp [hasB, h1])
      rw [HV.out]
      go_enter Try.func25, Try.ntmps25
      go_wp2_with fail
      go_ret
      exact ⟨rfl, rfl⟩
  · have HV : Hid (hasB n i = false) := hide (by simp [hasB]; omega)
    rw [HV.out]
    go_enter Try.func25, Try.ntmps25
    go_wp2_with fail
    go_ret
    exact ⟨rfl, rfl⟩
end Go.Proofs.Ytihhepojhoaacaa
