/- clepsydra/tree.Differ, Same: contracts. Conditions: the trees as they lie, or none. -/
import Derived.Test.YthpbohheddkfiaaTDif
import Derived.Laws.EntriesVeiled
namespace Go.Proofs.Ythpbohheddkfiaa
set_option linter.unusedVariables false
set_option linter.unusedSimpArgs false
open Go.ChangeShapes Go.WideShapes Go.ChangeAt Go.RowKit
theorem al4t (w : World) (o1 o2 o3 o4 : Obj) (w4 : World) (h4 : (((w.alloc o1).alloc o2).alloc o3).alloc o4 = w4) : w4.heap[w.heap.size]? = some o1 ∧ w4.heap[w.heap.size + 1]? = some o2 ∧ w4.heap[w.heap.size + 2]? = some o3 ∧ w4.heap[w.heap.size + 3]? = some o4 ∧ w4.heap.size = w.heap.size + 4 ∧ Below w.heap.size w w4 := by
  have s1 : (w.alloc o1).heap.size = w.heap.size + 1 := by simp
  have g1 := heap_alloc_new w o1
  have b1 := below_alloc (Below.refl w.heap.size w) o1
  generalize w.alloc o1 = w1 at *
  have s2 : (w1.alloc o2).heap.size = w1.heap.size + 1 := by simp
  have g2 := heap_alloc_new w1 o2
  have b2 := below_alloc (Below.refl w1.heap.size w1) o2
  generalize w1.alloc o2 = w2 at *
  have s3 : (w2.alloc o3).heap.size = w2.heap.size + 1 := by simp
  have g3 := heap_alloc_new w2 o3
  have b3 := below_alloc (Below.refl w2.heap.size w2) o3
  generalize w2.alloc o3 = w3 at *
  have s4 : (w3.alloc o4).heap.size = w3.heap.size + 1 := by simp
  have g4 := heap_alloc_new w3 o4
  have b4 := below_alloc (Below.refl w3.heap.size w3) o4
  generalize w3.alloc o4 = w5 at *
  subst h4
  rw [s3, s2, s1] at g4
  rw [s2, s1] at g3
  rw [s1] at g2
  exact ⟨(b4.block _ (by omega)).trans ((b3.block _ (by omega)).trans ((b2.block _ (by omega)).trans g1)), (b4.block _ (by omega)).trans ((b3.block _ (by omega)).trans g2), (b4.block _ (by omega)).trans g3, g4, by omega, below_step (below_step (below_step b1 b2) b3) b4⟩
set_option maxRecDepth 100000 in
set_option maxHeartbeats 3200000 in
theorem differ_any {w0 w : World} {pa pb : Option Nat} {F G : Nat → List It} (ta : ∀ a, pa = some a → TreeO w0 w a F) (tc : ∀ c, pb = some c → TreeO w0 w c G) (ne : ∀ a, pa = some a → pb ≠ some a) (hlow : w0.heap.size ≤ w.heap.size) :
    Calls Try.prog 10 #[ptrV pa, ptrV pb] w fun e w' => ∃ v, e = .returned v ∧ OwnL (one1 natv) 1 3 w.heap.size w' v (difL (sameN pa pb F G) 8 0) ∧ (∀ a, pa = some a → TreeO w0 w' a F) ∧ (∀ c, pb = some c → TreeO w0 w' c G) ∧ Sets (fun g => pa = some g ∨ pb = some g) w w' := by
  obtain ⟨x, hx⟩ : ∃ x, w.heap.size = x := ⟨_, rfl⟩
  obtain ⟨w4, hw4⟩ : ∃ w4, ((((w.alloc (.cells #[ptrV pa] 25)).alloc (.cells #[ptrV pb] 25)).alloc (.cells #[.slice none 0 0] 30)).alloc (.cells #[.nilFunc] 58)) = w4 := ⟨_, rfl⟩
  obtain ⟨q0, q1, q2, q3, hn4, hb4⟩ := al4t w _ _ _ _ w4 hw4
  rw [hx] at q0 q1 q2 q3 hn4
  obtain ⟨fv, hfv⟩ : ∃ fv, Value.func (.func 17) #[] #[.pointer (some ⟨x, 0, none⟩), .pointer (some ⟨x + 1, 0, none⟩), .pointer (some ⟨x + 2, 0, none⟩), .pointer (some ⟨x + 3, 0, none⟩)] = fv := ⟨_, rfl⟩
  have hlk : LkS w0 (w4.setCell ⟨x + 3, 0, none⟩ fv) x pa pb F G [] := by
    have hs : Sets (fun g => g = x + 3) w4 (w4.setCell ⟨x + 3, 0, none⟩ fv) := (Sets.refl (S := fun g => g = x + 3) w4).set (g := x + 3) (fun _ => rfl) 0 fv
    have hty : ∀ g, g < w4.heap.size → g = x + 3 → ∃ a ty fr, w4.heap[g]? = some (.cells a ty fr) ∧ 33 ≠ ty ∧ 28 ≠ ty := fun g _ e => ⟨#[.nilFunc], 58, (0, 0), by rw [e]; exact q3, by decide, by decide⟩
    refine ⟨(hs.block _ (by omega) (by omega)).trans q0, (hs.block _ (by omega) (by omega)).trans q1, ⟨_, (hs.block _ (by omega) (by omega)).trans q2, OwnL.nil_ _ _ _ _ _⟩, ?_, fun a ha => ((ta a ha).below hb4).other hs (fun e => by have := (ta a ha).lt; omega) (fun g e => by omega) hty, fun c hc => ((tc c hc).below hb4).other hs (fun e => by have := (tc c hc).lt; omega) (fun g e => by omega) hty, ne, ⟨fun a ha => by have := (ta a ha).lt; omega, fun c hc => by have := (tc c hc).lt; omega⟩, by omega⟩
    rw [← hfv]
    simp [World.setCell, Array.getElem?_modify, q3]
  have hsb : Sets (fun g => pa = some g ∨ pb = some g) w (w4.setCell ⟨x + 3, 0, none⟩ fv) := (Sets.of (S := fun g => pa = some g ∨ pb = some g) hb4).set (g := x + 3) (fun h => by omega) 0 fv
  have HL := hide (look_any 8 8 rfl 0 (by omega) (by decide) _ [] (by decide) hlk)
  have hlc := (cell_of_row _ _ 0 _ _ _ hlk.bL).trans rfl
  have HSB := hide hsb
  have HW4 := hide hw4
  have HX := hide hx
  have HFV := hide hfv
  have z3 : w4.cell? ⟨x + 3, 0, none⟩ = some .nilFunc := (cell_of_row w4 (x + 3) 0 _ _ _ q3).trans rfl
  have f3 : w4.frozen? ⟨x + 3, 0, none⟩ = false := by simp [World.frozen?, q3]
  unfold ptrV at HW4 ⊢
  obtain ⟨qa, hqa⟩ : ∃ qa, pa.map (fun a => (⟨a, 0, none⟩ : Addr)) = qa := ⟨_, rfl⟩
  obtain ⟨qb, hqb⟩ : ∃ qb, pb.map (fun a => (⟨a, 0, none⟩ : Addr)) = qb := ⟨_, rfl⟩
  rw [hqa, hqb] at HW4 ⊢
  clear hlk hsb hw4 hb4 q0 q1 q2 q3 hn4 hfv ta tc ne hqa hqb hx
  go_enter Try.func10, Try.ntmps10
  go_upto_region 3 with fail
  try rw [HW4.out]
  try rw [HX.out]
  simp only [Nat.add_assoc, Nat.reduceAdd]
  go_upto_region 4 with fail
  try rw [HFV.out]
  obtain ⟨w5, hw5⟩ : ∃ w5, w4.setCell ⟨x + 3, 0, none⟩ fv = w5 := ⟨_, rfl⟩
  rw [hw5] at HL hlc HSB ⊢
  clear z3 f3 hw5
  rw [← HFV.out]
  go_wp2_with fail
  refine (Calls.mono HL.out ?_); rintro e w6 ⟨rfl, h6, hs6⟩
  obtain ⟨v, hv, ho⟩ := h6.bO
  have hz6 := (cell_of_row _ _ 0 _ _ _ hv).trans rfl
  have H6 := hide h6
  have HO := hide ho
  have HS6 := hide (HSB.out.trans hs6 (fun i hi e => by
    rcases e with e | e | e
    · exact .inl e
    · exact .inr e
    · have := HX.out; omega))
  clear h6 hs6 hv ho hlc
  go_wp2_with fail
  go_ret
  exact ⟨v, rfl, OwnL.base_ HO.out (by have := HX.out; omega), H6.out.ta, H6.out.tc, HS6.out⟩
set_option maxRecDepth 100000 in
set_option maxHeartbeats 1600000 in
theorem tsame_any {w0 w : World} {a c : Nat} {F G : Nat → List It} (ta : TreeO w0 w a F) (tc : TreeO w0 w c G) (hne : a ≠ c) :
    Calls Try.prog 8 #[.pointer (some ⟨a, 0, none⟩), .pointer (some ⟨c, 0, none⟩)] w fun e w' => e = .returned (.bool (decide (nodeT F 8 0 = nodeT G 8 0))) ∧ TreeO w0 w' a F ∧ TreeO w0 w' c G ∧ Sets (fun g => g = a ∨ g = c) w w' := by
  have HA := hide (root_any ta)
  have HTC := hide tc
  have HTA := hide ta
  obtain ⟨x, hx⟩ : ∃ x, nodeT F 8 0 = x := ⟨_, rfl⟩
  obtain ⟨y, hy⟩ : ∃ y, nodeT G 8 0 = y := ⟨_, rfl⟩
  rw [hx] at HA ⊢
  have HY := hide hy
  rw [hy]
  clear ta tc hx hy
  go_enter Try.func8, Try.ntmps8
  go_wp2_with fail
  refine (Calls.mono HA.out ?_); rintro e w1 ⟨rfl, h1, hs1⟩
  have hc1 := HTC.out.apart HTA.out (fun e => hne e.symm) hs1
  have HB := hide (root_any hc1)
  rw [HY.out] at HB
  have HT1 := hide h1
  have HC1 := hide hc1
  have HS1 := hide hs1
  clear h1 hc1 hs1 HA HTA HTC
  go_wp2_with fail
  refine (Calls.mono HB.out ?_); rintro e w2 ⟨rfl, h2, hs2⟩
  have HT2 := hide (HT1.out.apart HC1.out hne hs2)
  have HC2 := hide h2
  have HS2 := hide ((HS1.out.mono_ (T := fun g => g = a ∨ g = c) (fun g _ e => .inl e)).trans hs2 (fun g _ e => .inr e))
  clear h2 hs2 HB HT1 HC1 HS1
  go_wp2_with fail
  go_ret
  exact ⟨rfl, HT2.out, HC2.out, HS2.out⟩
end Go.Proofs.Ythpbohheddkfiaa
