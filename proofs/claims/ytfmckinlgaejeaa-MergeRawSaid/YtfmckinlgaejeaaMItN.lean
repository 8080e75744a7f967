/- merge.Iter: open, Next: contracts. Conditions: the iterator as it lies. -/
import Derived.Test.YtfmckinlgaejeaaMItO
import Derived.BigQuiet
namespace Go.Proofs.Ytfmckinlgaejeaa
set_option linter.unusedVariables false
set_option linter.unusedSimpArgs false
open Go.ChangeShapes Go.WideShapes Go.ChangeAt Go.RowKit

/-- An iterator over what its rows make. -/
inductive Itr (w : World) (b : Nat) (M : List It) (n : Int) : Prop
  | opened : ItO w b M n → Itr w b M n
  | fresh : ∀ A c R, w.heap[b]? = some (.cells (itC (.slice A R.length c) 0 (.slice none 0 0) n) 61 (0, 0)) → RowsX w b A R → R.length ≤ 1000000 → lenR (lsR R) ≤ 100000000 → mrgG (lenR (lsR R)) (lsR R) [] = M → Itr w b M n
theorem ItO.below {w w' : World} {b : Nat} {M : List It} {n : Int} (h : ItO w b M n) (hb : Below w.heap.size w w') : ItO w' b M n := by
  obtain ⟨A0, n0, c0, A, c, h1, h2, h3, h4⟩ := h.at_
  exact ⟨A0, n0, c0, A, c, (hb.block b (Array.getElem?_eq_some_iff.1 h1).1).trans h1, h2.below hb, h3, h4⟩
theorem Itr.below {w w' : World} {b : Nat} {M : List It} {n : Int} (h : Itr w b M n) (hb : Below w.heap.size w w') : Itr w' b M n := by
  cases h with
  | opened h => exact .opened (h.below hb)
  | fresh A c R h1 h2 h3 h4 h5 => exact .fresh A c R ((hb.block b (Array.getElem?_eq_some_iff.1 h1).1).trans h1) (h2.below hb) h3 h4 h5
theorem Itr.lt {w : World} {b : Nat} {M : List It} {n : Int} (h : Itr w b M n) : b < w.heap.size := by
  cases h with
  | opened h => obtain ⟨A0, n0, c0, A, c, h1, _⟩ := h.at_; exact (Array.getElem?_eq_some_iff.1 h1).1
  | fresh A c R h1 h2 h3 h4 h5 => exact (Array.getElem?_eq_some_iff.1 h1).1
theorem Itr.avoid {w : World} {b : Nat} {M : List It} {n : Int} (h : Itr w b M n) : Avoid w b w.heap.size := by
  intro a m c hc e
  cases h with
  | opened h =>
    obtain ⟨A0, n0, c0, A, c, h1, h2, _⟩ := h.at_
    rw [(it_box h1).2.1.2.2.2.2.1] at hc
    injection hc with hc
    injection hc with hc1 hc2 hc3
    subst hc1
    obtain ⟨b', off, e', hlt, _⟩ := h2 (List.ne_nil_of_length_pos (by omega))
    obtain rfl := Option.some.inj e'
    exact absurd e (Nat.ne_of_lt hlt)
  | fresh A c R h1 h2 h3 h4 h5 =>
    rw [(it_box h1).2.1.2.2.2.2.1] at hc
    injection hc with hc
    injection hc with hc1
    cases hc1
set_option maxRecDepth 100000 in
set_option maxHeartbeats 1600000 in
theorem it_first (b : Nat) (pl : Nat) (hpb : ¬ b = pl) (A : Option Addr) (c : Nat) (R : List (Sv It)) (n : Int) (w : World) (hp : w.cell? ⟨pl, 0, none⟩ = some (.pointer (some ⟨b, 0, none⟩))) (hpl : pl < w.heap.size)
    (hbx : w.heap[b]? = some (.cells (itC (.slice A R.length c) 0 (.slice none 0 0) n) 61 (0, 0))) (hR : RowsX w b A R) (hn : R.length ≤ 1000000) (hs : lenR (lsR R) ≤ 100000000) :
    Calls Try.prog 41 #[.pointer (some ⟨b, 1, none⟩), .func (.func 42) #[] #[.pointer (some ⟨pl, 0, none⟩)]] w fun e w' => e = .returned (.tuple #[]) ∧ ItO w' b (mrgG (lenR (lsR R)) (lsR R) []) n ∧ Sets (fun c => c = b) w w' ∧ ∀ g, g < w.heap.size → Avoid w' b g := by
  have HS := hide (it_slow b pl hpb A c R n w hp hpl hbx hR hn hs)
  have hl := run_call_load (P := Try.prog) Try.func54 (by kernel_rfl) (by kernel_rfl) (by kernel_rfl) .u32 (by kernel_rfl) (it_box hbx).2.1.2.1
  have hnot : ∀ (x : Bool) (w : World), (Op.unary .not (.bool x)).run Try.prog w = .ok (.bool (!x)) w := fun _ _ => rfl
  generalize mrgG (lenR (lsR R)) (lsR R) [] = M at *
  clear hp hpl hbx hR hn hs hpb
  go_enter Try.func41, Try.ntmps41
  go_wp2_with (first | (go_at_call 47; refine (Calls.mono HS.out ?_); rintro e w' ⟨rfl, h1, h2, h3⟩) | (go_at_call 46; go_in))
  go_end0
  exact ⟨rfl, h1, h2, h3⟩
set_option maxRecDepth 100000 in
set_option maxHeartbeats 1000000 in
theorem itopen_any (b : Nat) (M : List It) (n : Int) (w : World) (hI : Itr w b M n) :
    Calls Try.prog 35 #[.pointer (some ⟨b, 0, none⟩)] w fun e w' => e = .returned (.tuple #[]) ∧ ItO w' b M n ∧ Sets (fun c => c = b) w w' ∧ ∀ g, g < w.heap.size → Avoid w b g → Avoid w' b g := by
  have hba := below_alloc (Below.refl w.heap.size w) (.cells #[.pointer (some ⟨b, 0, none⟩)] 36)
  have hpn := heap_alloc_new w (.cells #[.pointer (some ⟨b, 0, none⟩)] 36)
  have hI1 := hI.below hba
  have hlb := hI.lt
  have hs0 : Sets (fun c => c = b) w (w.alloc (.cells #[.pointer (some ⟨b, 0, none⟩)] 36)) := Sets.of hba
  have hsz : w.heap.size < (w.alloc (.cells #[.pointer (some ⟨b, 0, none⟩)] 36)).heap.size := by simp
  obtain ⟨w1, hw1⟩ : ∃ w1, w.alloc (.cells #[.pointer (some ⟨b, 0, none⟩)] 36) = w1 := ⟨_, rfl⟩
  have hpc : w1.cell? ⟨w.heap.size, 0, none⟩ = some (.pointer (some ⟨b, 0, none⟩)) := by rw [← hw1]; exact (cell_of_row _ _ 0 _ _ _ hpn).trans rfl
  rw [hw1] at hI1 hs0 hsz
  have HDO : Hid (Calls Try.prog 41 #[.pointer (some ⟨b, 1, none⟩), .func (.func 42) #[] #[.pointer (some ⟨w.heap.size, 0, none⟩)]] w1 fun e w' => e = .returned (.tuple #[]) ∧ ItO w' b M n ∧ Sets (fun c => c = b) w w' ∧ ∀ g, g < w.heap.size → Avoid w b g → Avoid w' b g) := by
    have hc4 : w1.cell? ⟨b, 4, none⟩ = w.cell? ⟨b, 4, none⟩ := by rw [← hw1]; exact hba.cell (p := ⟨b, 4, none⟩) hlb
    refine hide ?_
    cases hI1 with
    | opened h =>
      obtain ⟨A0, n0, c0, A, c, h1, h2⟩ := h.at_
      refine Calls.mono (once_done ⟨b, 1, none⟩ 1 (by decide) _ w1 (it_box h1).2.1.2.1) ?_
      rintro e w' ⟨rfl, rfl⟩
      exact ⟨rfl, h, hs0, fun g hg ha => by unfold Avoid at *; rw [hc4]; exact ha⟩
    | fresh A c R h1 h2 h3 h4 h5 =>
      subst h5
      refine Calls.mono (it_first b w.heap.size (by omega) A c R n w1 hpc hsz h1 h2 h3 h4) ?_
      rintro e w' ⟨rfl, hk1, hk2, hk3⟩
      exact ⟨rfl, hk1, hs0.trans hk2 (fun _ _ h => h), fun g hg _ => hk3 g (by omega)⟩
  clear hI hI1 hs0 hba hpn hsz
  go_enter Try.func35, Try.ntmps35
  go_upto_region 1 with fail
  try rw [hw1]
  go_wp2_with fail
  refine (Calls.mono HDO.out ?_); rintro e w2 ⟨rfl, h2, h3, h4⟩
  go_wp2_with fail
  go_end0
  exact ⟨rfl, h2, h3, h4⟩
theorem ck_ {w : World} {g o : Nat} {v : Value} {w' : World} (hg : g < w.heap.size) (h : w.cell? ⟨g, o, none⟩ = some v) (hb : Below w.heap.size w.drew w') : w'.cell? ⟨g, o, none⟩ = some v := (hb.cell (p := ⟨g, o, none⟩) hg).trans h
theorem ItO.sets1 {w w' : World} {b g : Nat} {M : List It} {n : Int} (h : ItO w b M n) (k : Sets (fun c => c = g) w w') (hne : ¬ g = b) (ha : Avoid w b g) : ItO w' b M n := by
  obtain ⟨A0, n0, c0, A, c, h1, h2, h3, h4⟩ := h.at_
  obtain ⟨hbl, q, _⟩ := it_box h1
  refine ⟨A0, n0, c0, A, c, (k.block b hbl (fun e => hne e.symm)).trans h1, h2.sets k (fun a e hn => ?_), h3, h4⟩
  subst e
  have hp := List.length_pos_iff.2 hn
  exact ha a (M.length - 1) c (by rw [q.2.2.2.2.1, show M.length - 1 + 1 = M.length by omega])
/-- What happens in a block that is new does not count. -/
theorem Sets.drop_new {S : Nat → Prop} {w w2 w3 : World} {g : Nat} (h : Sets S w w2) (k : Sets (fun c => c = g) w2 w3) (hg : w.heap.size ≤ g) : Sets S w w3 :=
  h.trans k (fun i hi e => absurd hi (by subst e; omega))
/-- The item at a place, or none. -/
def nxI (M : List It) (k : Nat) : It := M[k]?.getD ⟨0, 0, 0, 0, 0⟩
theorem it_put {w : World} {b : Nat} {u v : Value} {d n : Int} {t : TypeId} (m : Int) (h : w.heap[b]? = some (.cells (itC u d v n) t (0, 0))) : (w.setCell ⟨b, 5, none⟩ (.int .i64 m)).heap[b]? = some (.cells (itC u d v m) t (0, 0)) := by
  simp [World.setCell, Array.getElem?_modify, h, itC]
theorem ItO.put {w : World} {b : Nat} {M : List It} {n : Int} (h : ItO w b M n) (m : Int) : ItO (w.setCell ⟨b, 5, none⟩ (.int .i64 m)) b M m := by
  obtain ⟨A0, n0, c0, A, c, h1, h2, h3, h4⟩ := h.at_
  exact ⟨A0, n0, c0, A, c, it_put m h1, h2.sets ((Sets.refl (S := fun c => c = b) w).set (g := b) (fun _ => rfl) 5 _) (items_off2 h1 h2), h3, h4⟩
abbrev z5 : It := ⟨0, 0, 0, 0, 0⟩
theorem Sets.set5' {S : Nat → Prop} {w w' : World} (h : Sets S w w') {g : Nat} (hg : g < w.heap.size → S g) (v0 v1 v2 v3 v4 : Value) : Sets S w (((((w'.setCell ⟨g, 0, none⟩ v0).setCell ⟨g, 1, none⟩ v1).setCell ⟨g, 2, none⟩ v2).setCell ⟨g, 3, none⟩ v3).setCell ⟨g, 4, none⟩ v4) :=
  ((((h.set hg 0 v0).set hg 1 v1).set hg 2 v2).set hg 3 v3).set hg 4 v4
set_option maxRecDepth 100000 in
set_option maxHeartbeats 3200000 in
theorem next_hit (b : Nat) (M : List It) (k : Nat) (w : World) (hI : Itr w b M k) (y : It) (hy : M[k]? = some y) :
    Calls Try.prog 18 #[.pointer (some ⟨b, 0, none⟩)] w fun e w' => e = .returned (.tuple #[y.val, .bool true]) ∧ ItO w' b M ((k : Int) + 1) ∧ Sets (fun c => c = b) w w' := by
  have hlt : k < M.length := (List.getElem?_eq_some_iff.1 hy).1
  have HY := hide hy
  clear hy
  have hba := below_alloc (Below.refl w.heap.size w) (.cells #[.int .i64 0, .int .i64 0, .int .u64 0, .int .u64 0, .int .i64 0] 28)
  have hlb := hI.lt
  have hlb2 : b < (w.alloc (.cells #[.int .i64 0, .int .i64 0, .int .u64 0, .int .u64 0, .int .i64 0] 28)).heap.size := by simp; omega
  have hgn := heap_alloc_new w (.cells #[.int .i64 0, .int .i64 0, .int .u64 0, .int .u64 0, .int .i64 0] 28)
  have hgl : w.heap.size < (w.alloc (.cells #[.int .i64 0, .int .i64 0, .int .u64 0, .int .u64 0, .int .i64 0] 28)).heap.size := by simp
  have hs0 : Sets (fun c => c = b) w (w.alloc (.cells #[.int .i64 0, .int .i64 0, .int .u64 0, .int .u64 0, .int .i64 0] 28)) := Sets.of hba
  have HO := hide (itopen_any b M k _ (hI.below hba))
  have HAV : Hid (Avoid (w.alloc (.cells #[.int .i64 0, .int .i64 0, .int .u64 0, .int .u64 0, .int .i64 0] 28)) b w.heap.size) := hide (by
    intro a n c hc
    rw [hba.cell (p := ⟨b, 4, none⟩) hlb] at hc
    exact hI.avoid a n c hc)
  obtain ⟨w1, hw1⟩ : ∃ w1, w.alloc (.cells #[.int .i64 0, .int .i64 0, .int .u64 0, .int .u64 0, .int .i64 0] 28) = w1 := ⟨_, rfl⟩
  rw [hw1] at hgn hgl hs0 HO hlb2 HAV
  have hne : ¬ w.heap.size = b := by omega
  have HS0 := hide hs0
  have HGN := hide hgn
  have HLT := hide hlt
  clear hI hba hs0 hgn hlt
  go_enter Try.func18, Try.ntmps18
  go_upto_region 1 with fail
  try rw [hw1]
  go_wp2_with fail
  refine (Calls.mono HO.out ?_); rintro e w2 ⟨rfl, hO, hs, hav⟩
  have hg2 := (hs.block _ hgl hne).trans HGN.out
  have hav2 := hav _ hgl HAV.out
  have hs2 := HS0.out.trans hs (fun _ _ h => h)
  have HGZ := hide hs.size
  clear HO hw1 HGN HS0 hav HAV
  obtain ⟨A0, n0, c0, A, c, h1, h2, h3, h4⟩ := hO.at_
  obtain ⟨hbl, ⟨q0, q1, q2, q3, q4, q5⟩, hz⟩ := it_box h1
  have hgl2 : w.heap.size < w2.heap.size := (Array.getElem?_eq_some_iff.1 hg2).1
  have HOO := hide hO
  have HS2 := hide hs2
  have HG2 := hide hg2
  have HBX := hide h1
  clear hO hs hs2 h1 q1 q2 q3 hg2 q0 hgl hlb hlb2
  obtain ⟨g, hgg⟩ : ∃ g, w.heap.size = g := ⟨_, rfl⟩
  have HGE : Hid (w.heap.size ≤ g) := hide (by omega)
  rw [hgg] at HG2 hgl2 hne hav2 ⊢
  clear hgg
  unfold maxLen at h4
  obtain ⟨bi, oi, rfl, hbi, y0, y1, y2, y3, y4⟩ := ItemsAt.item h2 (Below.refl _ _) HLT.out
  have hio := items_off2 HBX.out h2 _ rfl (List.ne_nil_of_length_pos (by have := HLT.out; omega))
  have hig : ¬ bi = g := hav2 _ (M.length - 1) c (by rw [q4, show M.length - 1 + 1 = M.length by have := HLT.out; omega])
  have hye : M[k]'HLT.out = y := (List.getElem?_eq_some_iff.1 HY.out).2
  rw [hye] at y0 y1 y2 y3 y4
  clear hye HY
  obtain ⟨m, hm⟩ : ∃ m, M.length = m := ⟨_, rfl⟩
  rw [hm] at q4 h3
  have HM := hide hm
  have hmx : (m : Int) ≤ 9223372036854775807 := by omega
  have hltI : (k : Int) < (m : Int) := by have := HLT.out; omega
  have hge : decide ((m : Int) ≤ (k : Int)) = false := decide_eq_false (by omega)
  have hkI : ¬ (m : Int) ≤ (k : Int) := by omega
  have hwr : IntKind.i64.wrap ((k : Int) + 1) = (k : Int) + 1 := by rw [IntKind.wrap_i64]; omega
  have hz5 := hz 5
  have hr : Below w2.heap.size w2 w2 := Below.refl _ _
  clear h2 hav2 hm h3
  go_upto_region 2 with fail
  go_quiet (fail)
  go_upto_region 5 with fail
  obtain ⟨w3, hw3⟩ : ∃ w3, (w2.drewN nq).setCell ⟨b, 5, none⟩ (.int .i64 ((k : Int) + 1)) = w3 := ⟨_, rfl⟩
  have hst : Sets (fun c => c = b) w2 w3 := by rw [← hw3]; exact (show Sets (fun c => c = b) w2 (w2.drewN nq) from Sets.of (below_drewN hr nq)).set (fun _ => rfl) 5 _
  have HST := hide hst
  have HO3 : Hid (ItO w3 b M ((k : Int) + 1)) := hide (by rw [← hw3]; exact (HOO.out.below (below_drewN hr nq)).put _)
  have hbx3 : w3.heap[b]? = some (.cells (itC (.slice A0 n0 c0) 1 (.slice (some ⟨bi, oi, none⟩) M.length c) ((k : Int) + 1)) 61 (0, 0)) := by rw [← hw3]; exact it_put _ HBX.out
  have hg3 : w3.heap[g]? = some (.cells #[.int .i64 0, .int .i64 0, .int .u64 0, .int .u64 0, .int .i64 0] 28 (0, 0)) := (hst.block g hgl2 hne).trans HG2.out
  obtain ⟨hbl3, ⟨r0, r1, r2, r3, r4, r5⟩, _⟩ := it_box hbx3
  have hm : M.length = m := HM.out
  rw [hm] at r4
  clear hm
  have HG3 := hide hg3
  obtain ⟨lg, g0, g1, g2, g3, g4, gf⟩ : g < w3.heap.size ∧ w3.cell? ⟨g, 0, none⟩ = some (.int .i64 0) ∧ w3.cell? ⟨g, 1, none⟩ = some (.int .i64 0) ∧ w3.cell? ⟨g, 2, none⟩ = some (.int .u64 0) ∧ w3.cell? ⟨g, 3, none⟩ = some (.int .u64 0) ∧ w3.cell? ⟨g, 4, none⟩ = some (.int .i64 0) ∧ ∀ o, w3.frozen? ⟨g, o, none⟩ = false :=
    ⟨(Array.getElem?_eq_some_iff.1 hg3).1, (cell_of_row _ _ 0 _ _ _ hg3).trans rfl, (cell_of_row _ _ 1 _ _ _ hg3).trans rfl, (cell_of_row _ _ 2 _ _ _ hg3).trans rfl, (cell_of_row _ _ 3 _ _ _ hg3).trans rfl, (cell_of_row _ _ 4 _ _ _ hg3).trans rfl, fun o => by simp [World.frozen?, hg3]⟩
  have hbi3 : bi < w3.heap.size := Nat.lt_of_lt_of_le hbi hst.size
  have HC : Hid (∀ W : World, Below w3.heap.size w3.drew W → (W.cell? ⟨b, 4, none⟩ = some (.slice (some ⟨bi, oi, none⟩) m c) ∧ W.cell? ⟨b, 5, none⟩ = some (.int .i64 ((k : Int) + 1))) ∧ (W.cell? ⟨bi, oi + k * 5, none⟩ = some (.int .i64 y.s) ∧ W.cell? ⟨bi, oi + k * 5 + 1, none⟩ = some (.int .i64 y.k) ∧ W.cell? ⟨bi, oi + k * 5 + 2, none⟩ = some (.int .u64 y.t) ∧ W.cell? ⟨bi, oi + k * 5 + 3, none⟩ = some (.int .u64 y.v) ∧ W.cell? ⟨bi, oi + k * 5 + 4, none⟩ = some (.int .i64 y.x))) := hide (fun W hW =>
    ⟨⟨ck_ hbl3 r4 hW, ck_ hbl3 r5 hW⟩, ck_ hbi3 (hst.cell hbi hio y0) hW, ck_ hbi3 (hst.cell hbi hio y1) hW, ck_ hbi3 (hst.cell hbi hio y2) hW, ck_ hbi3 (hst.cell hbi hio y3) hW, ck_ hbi3 (hst.cell hbi hio y4) hW⟩)
  have hwr2 : IntKind.i64.wrap (k : Int) = (k : Int) := by rw [IntKind.wrap_i64]; omega
  have hk1 : (k : Int) + 1 - 1 = (k : Int) := by omega
  have hk0 : (0 : Int) ≤ (k : Int) := by omega
  obtain ⟨R0', R1', R2', R3', R4'⟩ := box_item (put_res (w := w3) y hg3)
  have R0 := hide R0'; have R1 := hide R1'; have R2 := hide R2'; have R3 := hide R3'; have R4 := hide R4'
  have hk3 : Sets (fun c => c = g) w3 (((((w3.setCell ⟨g, 0, none⟩ (.int .i64 y.s)).setCell ⟨g, 1, none⟩ (.int .i64 y.k)).setCell ⟨g, 2, none⟩ (.int .u64 y.t)).setCell ⟨g, 3, none⟩ (.int .u64 y.v)).setCell ⟨g, 4, none⟩ (.int .i64 y.x)).drew := ((Sets.refl (S := fun c => c = g) w3).set5' (fun _ => rfl) _ _ _ _ _).drew
  have hav3 : Avoid w3 b g := fun a n' c' hc e => by
    rw [r4] at hc
    injection hc with hc
    injection hc with hc
    injection hc with hc
    subst hc
    exact hig e
  have HFO := hide (HO3.out.sets1 hk3 hne hav3)
  have HFS := hide (Sets.drop_new (HS2.out.trans hst (fun _ _ h => h)) hk3 HGE.out)
  clear R0' R1' R2' R3' R4' hk3 hav3
  try rw [hw3]
  clear q4 q5 y0 y1 y2 y3 y4 hz hz5 r0 r1 r2 r3 r4 r5 hst hbx3 hg3 hbi3 hw3 HBX HG2 hr hwr
  refine j_start [11, 12] (by kernel_rfl) ?_
  refine' j_take (i := 0) (v := _) [1, 2, 3, 9, 10, 11, 12] ?hi0 (by kernel_rfl) (by kernel_rfl) (by kernel_rfl) (by kernel_rfl) (by kernel_rfl) (Or.inl ⟨?hw0, ?hy0⟩) ?rest0
  case hi0 => (simp only [List.getElem?_toArray, List.getElem?_cons_succ, List.getElem?_cons_zero]; rfl)
  case hw0 => rfl
  case hy0 => (intro w' hw'; go_simp; try with_reducible rfl)
  try simp only [Act.put, List.setIfInBounds_toArray, List.set_cons_zero, List.set_cons_succ]
  refine' j_take (i := 1) (v := _) [2, 3, 9, 10, 11, 12] ?hi1 (by kernel_rfl) (by kernel_rfl) (by kernel_rfl) (by kernel_rfl) (by kernel_rfl) (Or.inl ⟨?hw1, ?hy1⟩) ?rest1
  case hi1 => (simp only [List.getElem?_toArray, List.getElem?_cons_succ, List.getElem?_cons_zero]; rfl)
  case hw1 => rfl
  case hy1 => (intro w' hw'; go_simp; try with_reducible rfl)
  try simp only [Act.put, List.setIfInBounds_toArray, List.set_cons_zero, List.set_cons_succ]
  refine' j_take (i := 2) (v := _) [3, 9, 10, 11, 12] ?hi2 (by kernel_rfl) (by kernel_rfl) (by kernel_rfl) (by kernel_rfl) (by kernel_rfl) (Or.inl ⟨?hw2, ?hy2⟩) ?rest2
  case hi2 => (simp only [List.getElem?_toArray, List.getElem?_cons_succ, List.getElem?_cons_zero]; rfl)
  case hw2 => rfl
  case hy2 => (intro w' hw'; go_simp; try with_reducible rfl)
  try simp only [Act.put, List.setIfInBounds_toArray, List.set_cons_zero, List.set_cons_succ]
  refine' j_take (i := 3) (v := _) [9, 10, 11, 12] ?hi3 (by kernel_rfl) (by kernel_rfl) (by kernel_rfl) (by kernel_rfl) (by kernel_rfl) (Or.inl ⟨?hw3, ?hy3⟩) ?rest3
  case hi3 => (simp only [List.getElem?_toArray, List.getElem?_cons_succ, List.getElem?_cons_zero]; rfl)
  case hw3 => rfl
  case hy3 => (intro w' hw'; have h0 := (HC.out _ hw').1.1; go_simp; try with_reducible rfl)
  try simp only [Act.put, List.setIfInBounds_toArray, List.set_cons_zero, List.set_cons_succ]
  refine' j_take (i := 4) (v := _) [5, 6, 7, 8, 9, 10, 11, 12] ?hi4 (by kernel_rfl) (by kernel_rfl) (by kernel_rfl) (by kernel_rfl) (by kernel_rfl) (Or.inl ⟨?hw4, ?hy4⟩) ?rest4
  case hi4 => (simp only [List.getElem?_toArray, List.getElem?_cons_succ, List.getElem?_cons_zero]; rfl)
  case hw4 => rfl
  case hy4 => (intro w' hw'; go_simp; try with_reducible rfl)
  try simp only [Act.put, List.setIfInBounds_toArray, List.set_cons_zero, List.set_cons_succ]
  refine' j_take (i := 5) (v := _) [6, 7, 8, 9, 10, 11, 12] ?hi5 (by kernel_rfl) (by kernel_rfl) (by kernel_rfl) (by kernel_rfl) (by kernel_rfl) (Or.inl ⟨?hw5, ?hy5⟩) ?rest5
  case hi5 => (simp only [List.getElem?_toArray, List.getElem?_cons_succ, List.getElem?_cons_zero]; rfl)
  case hw5 => rfl
  case hy5 => (intro w' hw'; go_simp; try with_reducible rfl)
  try simp only [Act.put, List.setIfInBounds_toArray, List.set_cons_zero, List.set_cons_succ]
  refine' j_take (i := 6) (v := _) [7, 8, 9, 10, 11, 12] ?hi6 (by kernel_rfl) (by kernel_rfl) (by kernel_rfl) (by kernel_rfl) (by kernel_rfl) (Or.inl ⟨?hw6, ?hy6⟩) ?rest6
  case hi6 => (simp only [List.getElem?_toArray, List.getElem?_cons_succ, List.getElem?_cons_zero]; rfl)
  case hw6 => rfl
  case hy6 => (intro w' hw'; go_simp; try with_reducible rfl)
  try simp only [Act.put, List.setIfInBounds_toArray, List.set_cons_zero, List.set_cons_succ]
  refine' j_take (i := 7) (v := _) [8, 9, 10, 11, 12] ?hi7 (by kernel_rfl) (by kernel_rfl) (by kernel_rfl) (by kernel_rfl) (by kernel_rfl) (Or.inl ⟨?hw7, ?hy7⟩) ?rest7
  case hi7 => (simp only [List.getElem?_toArray, List.getElem?_cons_succ, List.getElem?_cons_zero]; rfl)
  case hw7 => rfl
  case hy7 => (intro w' hw'; have h0 := (HC.out _ hw').1.2; go_simp; try with_reducible rfl)
  try simp only [Act.put, List.setIfInBounds_toArray, List.set_cons_zero, List.set_cons_succ]
  refine' j_take (i := 8) (v := _) [9, 10, 11, 12] ?hi8 (by kernel_rfl) (by kernel_rfl) (by kernel_rfl) (by kernel_rfl) (by kernel_rfl) (Or.inl ⟨?hw8, ?hy8⟩) ?rest8
  case hi8 => (simp only [List.getElem?_toArray, List.getElem?_cons_succ, List.getElem?_cons_zero]; rfl)
  case hw8 => rfl
  case hy8 => (intro w' hw'; go_simp; try with_reducible rfl)
  try simp only [Act.put, List.setIfInBounds_toArray, List.set_cons_zero, List.set_cons_succ]
  refine' j_take (i := 9) (v := _) [10, 11, 12] ?hi9 (by kernel_rfl) (by kernel_rfl) (by kernel_rfl) (by kernel_rfl) (by kernel_rfl) (Or.inl ⟨?hw9, ?hy9⟩) ?rest9
  case hi9 => (simp only [List.getElem?_toArray, List.getElem?_cons_succ, List.getElem?_cons_zero]; rfl)
  case hw9 => rfl
  case hy9 => (intro w' hw'; go_simp; try with_reducible rfl)
  try simp only [Act.put, List.setIfInBounds_toArray, List.set_cons_zero, List.set_cons_succ]
  refine' j_take (i := 10) (v := _) [11, 12] ?hi10 (by kernel_rfl) (by kernel_rfl) (by kernel_rfl) (by kernel_rfl) (by kernel_rfl) (Or.inl ⟨?hw10, ?hy10⟩) ?rest10
  case hi10 => (simp only [List.getElem?_toArray, List.getElem?_cons_succ, List.getElem?_cons_zero]; rfl)
  case hw10 => rfl
  case hy10 => (intro w' hw'; obtain ⟨_, i0, i1, i2, i3, i4⟩ := HC.out _ hw'; go_simp; try with_reducible rfl)
  try simp only [Act.put, List.setIfInBounds_toArray, List.set_cons_zero, List.set_cons_succ]
  refine' wpAnyJ_last (i := 11) (o := _) (by kernel_rfl) ?ho11 (by kernel_rfl) (fun K hK => ?step11)
  case ho11 => (simp only [List.getElem?_toArray, List.getElem?_cons_succ, List.getElem?_cons_zero]; rfl)
  clear h4 hgl2 hbl hbi hmx hltI hge hkI hwr2 hk1 hk0 hio hig hne lg hbl3
  go_simp
  refine hK.out _ _ ?_
  clear hK K
  try simp only [Act.put, List.setIfInBounds_toArray, List.set_cons_zero, List.set_cons_succ]
  refine' wpAnyJ_last (i := 12) (o := _) (by kernel_rfl) ?ho12 (by kernel_rfl) (fun K hK => ?step12)
  case ho12 => (simp only [List.getElem?_toArray, List.getElem?_cons_succ, List.getElem?_cons_zero]; rfl)
  go_simp
  refine hK.out _ _ ?_
  clear hK K
  try simp only [Act.put, List.setIfInBounds_toArray, List.set_cons_zero, List.set_cons_succ]
  refine wpAnyJ_done (by kernel_rfl) ?_ _
  refine NoPanic.normal ?_
  go_wp2_with fail
  refine bodyPost_ret (v := .tuple #[y.val, .bool true]) (by simp [results, Try.results18, go_sem, R0.out, R1.out, R2.out, R3.out, R4.out]) rfl ?_
  exact ⟨rfl, HFO.out, HFS.out⟩
set_option maxRecDepth 100000 in
set_option maxHeartbeats 3200000 in
theorem next_miss (b : Nat) (M : List It) (k : Nat) (w : World) (hI : Itr w b M k) (hlt : M.length ≤ k) :
    Calls Try.prog 18 #[.pointer (some ⟨b, 0, none⟩)] w fun e w' => e = .returned (.tuple #[It.val ⟨0, 0, 0, 0, 0⟩, .bool false]) ∧ ItO w' b M k ∧ Sets (fun c => c = b) w w' := by
  have hba := below_alloc (Below.refl w.heap.size w) (.cells #[.int .i64 0, .int .i64 0, .int .u64 0, .int .u64 0, .int .i64 0] 28)
  have hlb := hI.lt
  have hlb2 : b < (w.alloc (.cells #[.int .i64 0, .int .i64 0, .int .u64 0, .int .u64 0, .int .i64 0] 28)).heap.size := by simp; omega
  have hgn := heap_alloc_new w (.cells #[.int .i64 0, .int .i64 0, .int .u64 0, .int .u64 0, .int .i64 0] 28)
  have hgl : w.heap.size < (w.alloc (.cells #[.int .i64 0, .int .i64 0, .int .u64 0, .int .u64 0, .int .i64 0] 28)).heap.size := by simp
  have hs0 : Sets (fun c => c = b) w (w.alloc (.cells #[.int .i64 0, .int .i64 0, .int .u64 0, .int .u64 0, .int .i64 0] 28)) := Sets.of hba
  have HO := hide (itopen_any b M k _ (hI.below hba))
  have HAV : Hid (Avoid (w.alloc (.cells #[.int .i64 0, .int .i64 0, .int .u64 0, .int .u64 0, .int .i64 0] 28)) b w.heap.size) := hide (by
    intro a n c hc
    rw [hba.cell (p := ⟨b, 4, none⟩) hlb] at hc
    exact hI.avoid a n c hc)
  obtain ⟨w1, hw1⟩ : ∃ w1, w.alloc (.cells #[.int .i64 0, .int .i64 0, .int .u64 0, .int .u64 0, .int .i64 0] 28) = w1 := ⟨_, rfl⟩
  rw [hw1] at hgn hgl hs0 HO hlb2 HAV
  have hne : ¬ w.heap.size = b := by omega
  have HS0 := hide hs0
  have HGN := hide hgn
  have HLT := hide hlt
  clear hI hba hs0 hgn hlt
  go_enter Try.func18, Try.ntmps18
  go_upto_region 1 with fail
  try rw [hw1]
  go_wp2_with fail
  refine (Calls.mono HO.out ?_); rintro e w2 ⟨rfl, hO, hs, hav⟩
  have hg2 := (hs.block _ hgl hne).trans HGN.out
  have hav2 := hav _ hgl HAV.out
  have hs2 := HS0.out.trans hs (fun _ _ h => h)
  have HGZ := hide hs.size
  clear HO hw1 HGN HS0 hav HAV
  obtain ⟨A0, n0, c0, A, c, h1, h2, h3, h4⟩ := hO.at_
  obtain ⟨hbl, ⟨q0, q1, q2, q3, q4, q5⟩, hz⟩ := it_box h1
  have hgl2 : w.heap.size < w2.heap.size := (Array.getElem?_eq_some_iff.1 hg2).1
  have HOO := hide hO
  have HS2 := hide hs2
  have HG2 := hide hg2
  have HBX := hide h1
  clear hO hs hs2 h1 q1 q2 q3 hg2 q0 hgl hlb hlb2
  obtain ⟨g, hgg⟩ : ∃ g, w.heap.size = g := ⟨_, rfl⟩
  have HGE : Hid (w.heap.size ≤ g) := hide (by omega)
  rw [hgg] at HG2 hgl2 hne hav2 ⊢
  clear hgg
  unfold maxLen at h4
  obtain ⟨m, hm⟩ : ∃ m, M.length = m := ⟨_, rfl⟩
  have HM := hide hm
  have hltI : (m : Int) ≤ (k : Int) := by have := HLT.out; omega
  have hge : decide ((m : Int) ≤ (k : Int)) = true := decide_eq_true hltI
  have hr : Below w2.heap.size w2 w2 := Below.refl _ _
  have hav3 : Avoid w2 b g := hav2
  rw [hm] at q4
  clear h2 hav2 hm h3 h4
  go_upto_region 2 with fail
  go_quiet (fail)
  obtain ⟨w3, hw3⟩ : ∃ w3, w2.drewN nq = w3 := ⟨_, rfl⟩
  have hb3 : Below w2.heap.size w2 w3 := by rw [← hw3]; exact below_drewN hr nq
  have hg3 : w3.heap[g]? = some (.cells #[.int .i64 0, .int .i64 0, .int .u64 0, .int .u64 0, .int .i64 0] 28 (0, 0)) := (hb3.block g hgl2).trans HG2.out
  obtain ⟨g0, g1, g2, g3, g4, gf⟩ : w3.cell? ⟨g, 0, none⟩ = some (.int .i64 0) ∧ w3.cell? ⟨g, 1, none⟩ = some (.int .i64 0) ∧ w3.cell? ⟨g, 2, none⟩ = some (.int .u64 0) ∧ w3.cell? ⟨g, 3, none⟩ = some (.int .u64 0) ∧ w3.cell? ⟨g, 4, none⟩ = some (.int .i64 0) ∧ ∀ o, w3.frozen? ⟨g, o, none⟩ = false :=
    ⟨(cell_of_row _ _ 0 _ _ _ hg3).trans rfl, (cell_of_row _ _ 1 _ _ _ hg3).trans rfl, (cell_of_row _ _ 2 _ _ _ hg3).trans rfl, (cell_of_row _ _ 3 _ _ _ hg3).trans rfl, (cell_of_row _ _ 4 _ _ _ hg3).trans rfl, fun o => by simp [World.frozen?, hg3]⟩
  obtain ⟨R0', R1', R2', R3', R4'⟩ := box_item (put_res (w := w3) ⟨0, 0, 0, 0, 0⟩ hg3)
  have R0 := hide R0'; have R1 := hide R1'; have R2 := hide R2'; have R3 := hide R3'; have R4 := hide R4'
  have hk3 : Sets (fun c => c = g) w3 (((((w3.setCell ⟨g, 0, none⟩ (.int .i64 0)).setCell ⟨g, 1, none⟩ (.int .i64 0)).setCell ⟨g, 2, none⟩ (.int .u64 0)).setCell ⟨g, 3, none⟩ (.int .u64 0)).setCell ⟨g, 4, none⟩ (.int .i64 0)) := (Sets.refl (S := fun c => c = g) w3).set5' (fun _ => rfl) _ _ _ _ _
  have hav4 : Avoid w3 b g := fun a n' c' hc => hav3 a n' c' (by rw [← hc]; exact (hb3.cell (p := ⟨b, 4, none⟩) hbl).symm)
  have HFO := hide ((HOO.out.below hb3).sets1 hk3 hne hav4)
  have HFS := hide (Sets.drop_new (HS2.out.trans (Sets.of (S := fun c => c = b) hb3) (fun _ _ h => h)) hk3 HGE.out)
  clear R0' R1' R2' R3' R4' hk3 hav3 hav4 hg3 HG2 HBX q4 q5 hz hr hge hltI hb3
  try rw [hw3]
  clear hw3
  go_wp2_with fail
  refine bodyPost_ret (v := .tuple #[It.val ⟨0, 0, 0, 0, 0⟩, .bool false]) (by simp [results, Try.results18, go_sem, R0.out, R1.out, R2.out, R3.out, R4.out]) rfl ?_
  exact ⟨rfl, HFO.out, HFS.out⟩
end Go.Proofs.Ytfmckinlgaejeaa
