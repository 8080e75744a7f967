/- (*clepsydra/tree.Tree).Node, Root, Leaf: contracts, whether it is summed already or not. Conditions: the tree as it lies. -/
import Derived.Test.YthpbohheddkfiaaTFill
import Derived.Test.YthpbohheddkfiaaOnce
namespace Go.Proofs.Ythpbohheddkfiaa
set_option linter.unusedVariables false
set_option linter.unusedSimpArgs false
open Go.ChangeShapes Go.WideShapes Go.ChangeAt Go.RowKit

theorem RowsR.sets {α : Type} {cells : α → List Value} {sz : Nat} {e : TypeId} {n : Nat} {X : Nat → Prop} {w w' : World} {base : Nat} {S : Nat → Value} {F : Nat → List α} (h : RowsR cells sz e n w base S F) (k : Sets X w w') (hX : ∀ g, base ≤ g → ¬ X g) : RowsR cells sz e n w' base S F :=
  ⟨fun s hs => OwnL.sets (h.own s hs) k (fun g hg => hX g (OwnL.lt (h.own s hs) g hg).1), h.apart⟩
theorem RowsR.base_ {α : Type} {cells : α → List Value} {sz : Nat} {e : TypeId} {n : Nat} {w : World} {base base' : Nat} {S : Nat → Value} {F : Nat → List α} (h : RowsR cells sz e n w base S F) (hb : base' ≤ base) : RowsR cells sz e n w base' S F :=
  ⟨fun s hs => OwnL.base_ (h.own s hs) hb, h.apart⟩
set_option maxRecDepth 100000 in
set_option maxHeartbeats 3200000 in
theorem tslow {w : World} {b : Nat} {S : Nat → Value} {F : Nat → List It} (hbx : w.heap[b]? = some (.cells (treeL S 0 0 nilS).toArray 57 (0, 0))) (hF : TreeR w (b + 1) S F) (hwf : ∀ s, s < 256 → ∀ x ∈ F s, x.wf) (hln : ∀ s, s < 256 → (F s).length ≤ 2000) :
    Calls Try.prog 27 #[.pointer (some ⟨b, 256, none⟩), .func (.func 20) #[.pointer (some ⟨b, 0, none⟩)] #[]] w fun e w' => e = .returned (.tuple #[]) ∧ ∃ U, w'.heap[b]? = some (.cells (treeL S 1 0 U).toArray 57 (0, 0)) ∧ RowsR (one1 u64t) 1 28 9 w' w.heap.size U (partT F 9 0) ∧ Sets (fun g => g = b) w w' := by
  have hbl := (Array.getElem?_eq_some_iff.1 hbx).1
  obtain ⟨c0, c1, _⟩ := treeL_one S 0 0 nilS
  have h0 := (cell_of_list (o := 256) hbx).trans c0
  have h1 := (cell_of_list (o := 257) hbx).trans c1
  have hz : ∀ o, w.frozen? ⟨b, o, none⟩ = false := fun o => by simp [World.frozen?, hbx]
  obtain ⟨w1, hw1⟩ : ∃ w1, w.setCell ⟨b, 257, none⟩ (.int .i32 1) = w1 := ⟨_, rfl⟩
  have hbx1 : w1.heap[b]? = some (.cells (treeL S 0 1 nilS).toArray 57 (0, 0)) := by rw [← hw1, ← treeL_setM S 0 0 1 nilS]; exact set_of_list hbx _
  have hs1 : Sets (fun g => g = b) w w1 := by rw [← hw1]; exact (Sets.refl (S := fun g => g = b) w).set (g := b) (fun _ => rfl) 257 _
  have hF1 : TreeR w1 (b + 1) S F := hF.sets hs1 (fun g hg e => by omega)
  have HFL := hide (fill_any hbx1 hF1 (by omega) hwf hln)
  have e1 : w1.heap.size = w.heap.size := by rw [← hw1]; simp [World.setCell]
  obtain ⟨d0, d1, _⟩ := treeL_one S 0 1 nilS
  have g0 := (cell_of_list (o := 256) hbx1).trans d0
  have hl := run_call_load (P := Try.prog) Try.func30 (by kernel_rfl) (by kernel_rfl) (by kernel_rfl) .u32 (by kernel_rfl) (w := w1) (a := ⟨b, 256, none⟩) (x := 0) g0
  have hnot : ∀ (x : Bool) (w : World), (Op.unary .not (.bool x)).run Try.prog w = .ok (.bool (!x)) w := fun _ _ => rfl
  have HS1 := hide hs1
  have HE1 := hide e1
  have HW1 := hide hw1
  have z257 := hz 257
  clear hbx hF hwf hln hbx1 hs1 hF1 c0 c1 d0 d1 hz e1
  go_enter_defers Try.func27, Try.ntmps27
  go_wp2_with (first | (go_at_call 26; go_in) | (go_at_call 31; refine (lock_free ⟨b, 257, none⟩ _ h1 z257).mono ?_; rintro e w' ⟨rfl, rfl⟩; rw [HW1.out]) | (go_at_call 20; refine (Calls.mono HFL.out ?_); rintro e w3 ⟨rfl, U, hbx3, hR3, hS3⟩; have HB3 := hide hbx3; have HR3 := hide hR3; have HS3 := hide hS3; clear hbx3 hR3 hS3))
  obtain ⟨f0, f1, _⟩ := treeL_one S 0 1 U
  have k0 := (cell_of_list (o := 256) HB3.out).trans f0
  have hz3 : ∀ o, w3.frozen? ⟨b, o, none⟩ = false := fun o => by simp [World.frozen?, HB3.out]
  have hb4 : (w3.drew.setCell ⟨b, 256, none⟩ (.int .u32 1)).heap[b]? = some (.cells (treeL S 1 1 U).toArray 57 (0, 0)) := by rw [← treeL_setD S 0 1 1 U]; exact set_of_list (w := w3.drew) HB3.out _
  obtain ⟨_, j1, _⟩ := treeL_one S 1 1 U
  have m1 := (cell_of_list (o := 257) hb4).trans j1
  unfold bodyPostD
  refine leaves_cons (f := 33) (args := #[.pointer (some ⟨b, 256, none⟩), .bool true]) (by simp) (by simp [go_sem]) ?_
  refine (store_deferred ⟨b, 256, none⟩ (.int .u32 0) .returning _ k0 (hz3 256)).mono ?_
  rintro e u' w'' ⟨rfl, rfl, rfl⟩
  refine leaves_cons (f := 32) (args := #[.pointer (some ⟨b, 257, none⟩)]) (by simp [settle]) (by simp [go_sem]) ?_
  refine (unlock_deferred ⟨b, 257, none⟩ _ _ m1 (by simp [World.frozen?, hb4])).mono ?_
  rintro e u' w'' ⟨rfl, rfl, rfl⟩
  have hb5 : ((w3.drew.setCell ⟨b, 256, none⟩ (.int .u32 1)).setCell ⟨b, 257, none⟩ (.int .i32 0)).heap[b]? = some (.cells (treeL S 1 0 U).toArray 57 (0, 0)) := by rw [← treeL_setM S 1 1 0 U]; exact set_of_list hb4 _
  have hs5 : Sets (fun g => g = b) w3 ((w3.drew.setCell ⟨b, 256, none⟩ (.int .u32 1)).setCell ⟨b, 257, none⟩ (.int .i32 0)) := ((Sets.refl (S := fun g => g = b) w3).drew.set (g := b) (fun _ => rfl) 256 _).set (g := b) (fun _ => rfl) 257 _
  have hR5 := HR3.out.sets hs5 (fun g hg e => by have := HE1.out; omega)
  rw [HE1.out] at hR5
  have hS5 := (HS1.out.trans HS3.out (fun _ _ h => h)).trans hs5 (fun _ _ h => h)
  simp [Leaves, settle, results, Try.results27]
  exact ⟨U, hb5, hR5, hS5⟩
set_option maxRecDepth 100000 in
set_option maxHeartbeats 1600000 in
theorem tdo_first {w : World} {b : Nat} {S : Nat → Value} {F : Nat → List It} (hbx : w.heap[b]? = some (.cells (treeL S 0 0 nilS).toArray 57 (0, 0))) (hF : TreeR w (b + 1) S F) (hwf : ∀ s, s < 256 → ∀ x ∈ F s, x.wf) (hln : ∀ s, s < 256 → (F s).length ≤ 2000) :
    Calls Try.prog 19 #[.pointer (some ⟨b, 256, none⟩), .func (.func 20) #[.pointer (some ⟨b, 0, none⟩)] #[]] w fun e w' => e = .returned (.tuple #[]) ∧ ∃ U, w'.heap[b]? = some (.cells (treeL S 1 0 U).toArray 57 (0, 0)) ∧ RowsR (one1 u64t) 1 28 9 w' w.heap.size U (partT F 9 0) ∧ Sets (fun g => g = b) w w' := by
  obtain ⟨c0, _, _⟩ := treeL_one S 0 0 nilS
  have h0 := (cell_of_list (o := 256) hbx).trans c0
  have hl := run_call_load (P := Try.prog) Try.func30 (by kernel_rfl) (by kernel_rfl) (by kernel_rfl) .u32 (by kernel_rfl) h0
  have hnot : ∀ (x : Bool) (w : World), (Op.unary .not (.bool x)).run Try.prog w = .ok (.bool (!x)) w := fun _ _ => rfl
  have HSL := hide (tslow hbx hF hwf hln)
  clear hbx hF hwf hln c0
  go_enter Try.func19, Try.ntmps19
  go_wp2_with (first | (go_at_call 27; refine (Calls.mono HSL.out ?_); rintro e w' ⟨rfl, hx⟩; have HX := hide hx; clear hx) | (go_at_call 26; go_in))
  go_end0
  exact ⟨rfl, HX.out⟩
/-- A tree, summed or not. -/
structure TreeO (w0 w : World) (b : Nat) (F : Nat → List It) : Prop where
  row : ∃ S d U, w.heap[b]? = some (.cells (treeL S d 0 U).toArray 57 (0, 0)) ∧ TreeR w (b + 1) S F ∧ ((d = 0 ∧ U = nilS) ∨ (d = 1 ∧ RowsR (one1 u64t) 1 28 9 w (b + 1) U (partT F 9 0)))
  wf : ∀ s, s < 256 → ∀ x ∈ F s, x.wf
  len : ∀ s, s < 256 → (F s).length ≤ 2000
  low : Below w0.heap.size w0 w
  old : w0.heap.size ≤ b
theorem TreeO.lt {w0 w : World} {b : Nat} {F : Nat → List It} (h : TreeO w0 w b F) : b < w.heap.size := by
  obtain ⟨S, d, U, hb, _⟩ := h.row
  exact (Array.getElem?_eq_some_iff.1 hb).1
theorem TreeO.below {w0 w w' : World} {b : Nat} {F : Nat → List It} (h : TreeO w0 w b F) (hb : Below w.heap.size w w') : TreeO w0 w' b F := by
  obtain ⟨S, d, U, hx, hR, hU⟩ := h.row
  refine ⟨⟨S, d, U, (hb.block b h.lt).trans hx, hR.below hb, ?_⟩, h.wf, h.len, below_step h.low hb, h.old⟩
  rcases hU with hU | ⟨e, hU⟩
  · exact .inl hU
  · exact .inr ⟨e, hU.below hb⟩
/-- Another tree is summed. -/
theorem TreeO.apart {w0 w w' : World} {b c : Nat} {F G : Nat → List It} (h : TreeO w0 w b F) (hc : TreeO w0 w c G) (hne : b ≠ c) (k : Sets (fun g => g = c) w w') : TreeO w0 w' b F := by
  obtain ⟨S, d, U, hx, hR, hU⟩ := h.row
  obtain ⟨S2, d2, U2, hx2, _, _⟩ := hc.row
  have keep : ∀ {α : Type} {cells : α → List Value} {sz : Nat} {e : TypeId} {n : Nat} {V : Nat → Value} {L : Nat → List α}, e ≠ 57 → RowsR cells sz e n w (b + 1) V L → RowsR cells sz e n w' (b + 1) V L := fun hn hr =>
    ⟨fun s hs => OwnL.sets (hr.own s hs) k (fun g hg e => own_ne_ty (hr.own s hs) hx2 hn (by rw [hg, e])), hr.apart⟩
  refine ⟨⟨S, d, U, (k.block b h.lt (fun e => hne e)).trans hx, keep (by decide) hR, ?_⟩, h.wf, h.len, Sets.below h.low k (fun g e => by rw [e]; exact hc.old) h.low.size, h.old⟩
  rcases hU with hU | ⟨e, hU⟩
  · exact .inl hU
  · exact .inr ⟨e, keep (by decide) hU⟩
theorem TreeN.o {w0 w : World} {b : Nat} {F : Nat → List It} (h : TreeN w0 w b F) (hwf : ∀ s, s < 256 → ∀ x ∈ F s, x.wf) (hln : ∀ s, s < 256 → (F s).length ≤ 2000) : TreeO w0 w b F := by
  obtain ⟨S, hb, hR⟩ := h.row
  exact ⟨⟨S, 0, nilS, hb, hR, .inl ⟨rfl, rfl⟩⟩, hwf, hln, h.low, h.old⟩
/-- once.Do(t.fill). -/
theorem tdo_any {w0 w : World} {b : Nat} {F : Nat → List It} (h : TreeO w0 w b F) :
    Calls Try.prog 19 #[.pointer (some ⟨b, 256, none⟩), .func (.func 20) #[.pointer (some ⟨b, 0, none⟩)] #[]] w fun e w' => e = .returned (.tuple #[]) ∧ ∃ S U, w'.heap[b]? = some (.cells (treeL S 1 0 U).toArray 57 (0, 0)) ∧ RowsR (one1 u64t) 1 28 9 w' (b + 1) U (partT F 9 0) ∧ TreeO w0 w' b F ∧ Sets (fun g => g = b) w w' := by
  have hlt := h.lt
  obtain ⟨S, d, U, hx, hR, hU⟩ := h.row
  rcases hU with ⟨rfl, rfl⟩ | ⟨rfl, hU⟩
  · refine Calls.mono (tdo_first hx hR h.wf h.len) ?_
    rintro e w' ⟨rfl, U, hx', hU, hS⟩
    have hU2 := hU.base_ (base' := b + 1) (by omega)
    exact ⟨rfl, S, U, hx', hU2, ⟨⟨S, 1, U, hx', hR.sets hS (fun g hg e => by omega), .inr ⟨rfl, hU2⟩⟩, h.wf, h.len, Sets.below h.low hS (fun g e => by rw [e]; exact h.old) h.low.size, h.old⟩, hS⟩
  · obtain ⟨c0, _, _⟩ := treeL_one S 1 0 U
    refine Calls.mono (once_done ⟨b, 256, none⟩ 1 (by decide) _ w ((cell_of_list (o := 256) hx).trans c0)) ?_
    rintro e w' ⟨rfl, rfl⟩
    exact ⟨rfl, S, U, hx, hU, h, Sets.refl _⟩
set_option maxRecDepth 100000 in
set_option maxHeartbeats 1600000 in
theorem node_any {w0 w : World} {b : Nat} {F : Nat → List It} (h : TreeO w0 w b F) (l i : Nat) (hl : l ≤ 8) (hi : i < 2 ^ (8 - l)) :
    Calls Try.prog 14 #[.pointer (some ⟨b, 0, none⟩), .int .i64 l, .int .i64 i] w fun e w' => e = .returned (.int .u64 (nodeT F l i)) ∧ TreeO w0 w' b F ∧ Sets (fun g => g = b) w w' := by
  have HD := hide (tdo_any h)
  have hl0 : ¬ (l : Int) < 0 := by omega
  have hl1 : (0 : Int) ≤ (l : Int) := by omega
  have hl8 : ¬ (8 : Int) < (l : Int) := by omega
  have hl9 : (l : Int) < 9 := by omega
  have hi0 : ¬ (i : Int) < 0 := by omega
  have hi1 : (0 : Int) ≤ (i : Int) := by omega
  obtain ⟨n, hn⟩ : ∃ n, 2 ^ (8 - l) = n := ⟨_, rfl⟩
  rw [hn] at hi
  have HN := hide hn
  have hin : (i : Int) < (n : Int) := by omega
  have hin2 : ¬ (n : Int) ≤ (i : Int) := by omega
  clear h hn
  go_enter Try.func14, Try.ntmps14
  go_wp2_with fail
  refine (Calls.mono HD.out ?_); rintro e w1 ⟨rfl, S, U, hx, hU, hT, hS⟩
  have hrl := hU.own l (by omega)
  rw [partT_below F (by omega), HN.out] at hrl
  obtain ⟨A, c, eU, hv, hc, _⟩ := OwnL.vals hrl
  have hlen : (levT F l n).length = n := levT_len _ _ _
  rw [hlen] at eU hc
  obtain ⟨g, off, rfl, hg, hcl⟩ := RowAt.one hv (Below.refl _ _) (k := i) (by rw [hlen]; exact hi)
  rw [show (levT F l n)[i]'(by rw [hlen]; exact hi) = nodeT F l i by simp [levT]] at hcl
  have hcu := (cell_of_list hx).trans (treeL_sum S 1 0 U (k := l) (by omega))
  rw [eU] at hcu
  have HT := hide hT
  have HS := hide hS
  obtain ⟨y, hy⟩ : ∃ y, nodeT F l i = y := ⟨_, rfl⟩
  have HY := hide hy
  rw [hy] at hcl
  clear hx hU hT hS hrl hv hc hlen eU HD hy
  go_wp2_with fail
  go_ret
  exact ⟨by rw [HY.out]; rfl, HT.out, HS.out⟩
theorem root_any {w0 w : World} {b : Nat} {F : Nat → List It} (h : TreeO w0 w b F) : Calls Try.prog 9 #[.pointer (some ⟨b, 0, none⟩)] w fun e w' => e = .returned (.int .u64 (nodeT F 8 0)) ∧ TreeO w0 w' b F ∧ Sets (fun g => g = b) w w' := by
  have HN := hide (node_any h 8 0 (by omega) (by decide))
  clear h
  go_enter Try.func9, Try.ntmps9
  go_wp2_with fail
  refine (Calls.mono HN.out ?_); rintro e w1 ⟨rfl, hT, hS⟩
  have HT := hide hT
  have HS := hide hS
  clear hT hS HN
  go_wp2_with fail
  go_ret
  exact ⟨rfl, HT.out, HS.out⟩
theorem tleaf_any {w0 w : World} {b : Nat} {F : Nat → List It} (h : TreeO w0 w b F) (s : Nat) (hs : s < 256) : Calls Try.prog 15 #[.pointer (some ⟨b, 0, none⟩), .int .i64 s] w fun e w' => e = .returned (.int .u64 (leafT (F s))) ∧ TreeO w0 w' b F ∧ Sets (fun g => g = b) w w' := by
  have HN := hide (node_any h 0 s (by omega) (by simpa using hs))
  clear h
  go_enter Try.func15, Try.ntmps15
  go_wp2_with fail
  refine (Calls.mono HN.out ?_); rintro e w1 ⟨rfl, hT, hS⟩
  have HT := hide hT
  have HS := hide hS
  clear hT hS HN
  go_wp2_with fail
  go_ret
  exact ⟨rfl, HT.out, HS.out⟩
end Go.Proofs.Ythpbohheddkfiaa
