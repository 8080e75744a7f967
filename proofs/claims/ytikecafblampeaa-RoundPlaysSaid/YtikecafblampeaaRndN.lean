/- round.Round: Tick, next: contracts. Conditions: the round as it lies. -/
import Derived.Test.YtikecafblampeaaRndE
namespace Go.Proofs.Ytikecafblampeaa
set_option linter.unusedVariables false
set_option linter.unusedSimpArgs false
open Go.ChangeShapes Go.WideShapes Go.ChangeAt Go.RowKit

theorem MsO.nil_ (base : Nat) (w : World) : MsO base w (.slice none 0 0) [] := ⟨OwnL.nil_ _ _ _ _ _, fun x hx => (by cases hx), fun x hx => (by cases hx)⟩
/-- The round's block turned, the list of items not. -/
theorem RndO.put {w0 w w' : World} {b : Nat} {R R' : Rs} {v : Value} (h : RndO w0 w b R) (hb : w.heap[b]? = some (.cells (rsL R 0 v).toArray 79 (0, 0))) (ho : Og (b + 1) w v R.L) (hb' : w'.heap[b]? = some (.cells (rsL R' 0 v).toArray 79 (0, 0))) (hL : R'.L = R.L) (hS : Sets (fun g => g = b) w w') : RndO w0 w' b R' :=
  ⟨⟨v, hb', by rw [hL]; exact ho.sets_ hS (fun g hg e => by omega)⟩, Sets.below h.low hS (fun g e => by rw [e]; exact h.old) h.low.size, h.old⟩
/-- What a Tick makes of a round, and what it tells. -/
def tick1 (R : Rs) : Rs := { R with tk := R.tk + 1 }
def tickR (R : Rs) : Rs := if R.ph = 3 then R else if R.tk + 1 = 40 then end1R (tick1 R) 20 R.f else tick1 R
def tickM (R : Rs) : List Mg := if R.ph = 3 then [] else if R.tk + 1 = 40 then [] else if (R.tk + 1) % 3 = 0 then sendR (tick1 R) false else []
set_option maxRecDepth 100000 in
set_option maxHeartbeats 3200000 in
theorem rtick_any {w0 w : World} {b : Nat} {R : Rs} (h : RndO w0 w b R) (hl : R.L.length ≤ 1099511627776) (hp : R.ph = 1 ∨ R.ph = 2 ∨ R.ph = 3) (hn : 1 ≤ R.n ∧ R.n ≤ 7) (ht : 0 ≤ R.tk ∧ R.tk ≤ 1000000) :
    Calls Try.prog 19 #[.pointer (some ⟨b, 0, none⟩)] w fun e w' => ∃ v N, e = .returned v ∧ RndO w0 w' b (tickR R) ∧ MsO w.heap.size w' v N ∧ N.map Mg.bare = tickM R ∧ Sets (fun g => g = b) w w' := by
  obtain ⟨v, hb, ho⟩ := h.row
  have c4 : w.cell? ⟨b, 4, none⟩ = some (.int .i64 R.ph) := (cell_of_list (o := 4) hb).trans rfl
  have c14 : w.cell? ⟨b, 14, none⟩ = some (.int .i64 R.tk) := (cell_of_list (o := 14) hb).trans rfl
  have z14 : w.frozen? ⟨b, 14, none⟩ = false := by simp [World.frozen?, hb]
  have htw : IntKind.i64.wrap (R.tk + 1) = R.tk + 1 := by rw [IntKind.wrap_i64]; omega
  have HH := hide h
  by_cases h3 : R.ph = 3
  · have hd3 : (R.ph == 3) = true := beq_iff_eq.2 h3
    have HT : Hid (tickR R = R ∧ tickM R = []) := hide ⟨by unfold tickR; rw [if_pos h3], by unfold tickM; rw [if_pos h3]⟩
    clear h hb ho h3
    go_enter Try.func19, Try.ntmps19
    go_wp2_with fail
    go_ret
    exact ⟨_, [], rfl, by rw [HT.out.1]; exact HH.out, MsO.nil_ _ _, by rw [HT.out.2]; rfl, Sets.refl _⟩
  have hd3 : (R.ph == 3) = false := beq_eq_false_iff_ne.2 h3
  have hb1 : (w.setCell ⟨b, 14, none⟩ (.int .i64 (R.tk + 1))).heap[b]? = some (.cells (rsL (tick1 R) 0 v).toArray 79 (0, 0)) := set_of_list hb _
  have hs1 : Sets (fun g => g = b) w (w.setCell ⟨b, 14, none⟩ (.int .i64 (R.tk + 1))) := (Sets.refl (S := fun g => g = b) w).set (g := b) (fun _ => rfl) 14 _
  have hr1 := h.put (R' := tick1 R) hb ho hb1 rfl hs1
  have hz1 : (w.setCell ⟨b, 14, none⟩ (.int .i64 (R.tk + 1))).heap.size = w.heap.size := by simp [World.setCell]
  obtain ⟨w1, hw1⟩ : ∃ w1, w.setCell ⟨b, 14, none⟩ (.int .i64 (R.tk + 1)) = w1 := ⟨_, rfl⟩
  rw [hw1] at hb1 hs1 hr1 hz1
  have d14 : w1.cell? ⟨b, 14, none⟩ = some (.int .i64 (R.tk + 1)) := (cell_of_list (o := 14) hb1).trans rfl
  have d3 : w1.cell? ⟨b, 3, none⟩ = some (.int .u64 R.f) := (cell_of_list (o := 3) hb1).trans rfl
  have HE := hide (rend_any hr1 20 R.f)
  have HSN := hide (rsend_any hr1 (show (tick1 R).L.length ≤ _ from hl) (show (tick1 R).ph = 1 ∨ _ from hp) (show 1 ≤ (tick1 R).n ∧ _ from hn) false)
  rw [hz1] at HSN
  have HZS := hide hz1
  have HR1 := hide hr1
  have HS1 := hide hs1
  have HW1 := hide hw1
  have HH3 := hide h3
  clear h hb ho hb1 hs1 hr1 hw1 h3
  obtain ⟨t, htt⟩ : ∃ t, R.tk + 1 = t := ⟨_, rfl⟩
  have HTT := hide htt
  rw [htt] at d14
  have ht0 : 0 ≤ t := by omega
  by_cases h40 : R.tk + 1 = 40
  · obtain rfl : t = 40 := by omega
    have HT : Hid (tickR R = end1R (tick1 R) 20 R.f ∧ tickM R = []) := hide ⟨by unfold tickR; rw [if_neg HH3.out, if_pos h40], by unfold tickM; rw [if_neg HH3.out, if_pos h40]⟩
    clear h40 htt
    go_enter Try.func19, Try.ntmps19
    go_upto_region 4 with fail
    try rw [HW1.out]
    go_wp2_with fail
    refine (Calls.mono HE.out ?_); rintro e w2 ⟨rfl, h1, h2⟩
    have H1 := hide h1
    have H2 := hide (HS1.out.trans h2 (fun _ _ h => h))
    clear h1 h2 HE HSN
    go_wp2_with fail
    go_ret
    exact ⟨_, [], rfl, by rw [HT.out.1]; exact H1.out, MsO.nil_ _ _, by rw [HT.out.2]; rfl, H2.out⟩
  have h40t : ¬ t = 40 := by omega
  have h40I : (t == 40) = false := beq_eq_false_iff_ne.2 h40t
  have HTR : Hid (tickR R = tick1 R) := hide (by unfold tickR; rw [if_neg HH3.out, if_neg h40])
  by_cases hm : t % 3 = 0
  · have hmI : (t % 3 == 0) = true := beq_iff_eq.2 hm
    have HTM : Hid (tickM R = sendR (tick1 R) false) := hide (by unfold tickM; rw [if_neg HH3.out, if_neg h40, HTT.out, if_pos hm])
    clear h40 htt
    go_enter Try.func19, Try.ntmps19
    go_upto_region 4 with fail
    try rw [HW1.out]
    go_wp2_with fail
    refine (Calls.mono HSN.out ?_); rintro e w2 ⟨v2, N, rfl, h1, h2, hb2⟩
    obtain ⟨A, c, rfl, _, _⟩ := OwnL.row Mg.cells_len h1.own
    have H1 := hide h1
    have H2 := hide h2
    have HB : Hid (Below w1.heap.size w1 w2) := hide (by rw [HZS.out]; exact hb2)
    clear h1 h2 hb2 HE HSN
    go_wp2_with fail
    go_ret
    exact ⟨_, N, rfl, by rw [HTR.out]; exact HR1.out.below HB.out, H1.out, by rw [HTM.out]; exact H2.out, HS1.out.trans (Sets.of (S := fun _ => False) HB.out) (fun _ _ h => h.elim)⟩
  · have hmI : (t % 3 == 0) = false := beq_eq_false_iff_ne.2 hm
    have HTM : Hid (tickM R = []) := hide (by unfold tickM; rw [if_neg HH3.out, if_neg h40, HTT.out, if_neg hm])
    clear h40 htt
    go_enter Try.func19, Try.ntmps19
    go_upto_region 4 with fail
    try rw [HW1.out]
    go_wp2_with fail
    go_ret
    exact ⟨_, [], rfl, by rw [HTR.out]; exact HR1.out, MsO.nil_ _ _, by rw [HTM.out]; rfl, HS1.out⟩
/-- All have counted: it fills. -/
def fillR (R : Rs) : Rs := { R with ph := 2, cnt := 0, C := fun _ => false }
theorem zero7 (w : World) : (zeroValue 65).run Try.prog w = .ok (.agg #[.bool false, .bool false, .bool false, .bool false, .bool false, .bool false, .bool false]) w := by kernel_rfl
set_option maxRecDepth 100000 in
set_option maxHeartbeats 3200000 in
theorem rnext_fill {w0 w : World} {b : Nat} {R : Rs} (h : RndO w0 w b R) (hl : R.L.length ≤ 1099511627776) (hp : R.ph = 1) (hn : 1 ≤ R.n ∧ R.n ≤ 7) :
    Calls Try.prog 31 #[.pointer (some ⟨b, 0, none⟩)] w fun e w' => ∃ v N, e = .returned v ∧ RndO w0 w' b (fillR R) ∧ MsO w.heap.size w' v N ∧ N.map Mg.bare = sendR (fillR R) true ∧ Sets (fun g => g = b) w w' := by
  obtain ⟨v, hb, ho⟩ := h.row
  have c4 : w.cell? ⟨b, 4, none⟩ = some (.int .i64 1) := by rw [← hp]; exact (cell_of_list (o := 4) hb).trans rfl
  have c12 : w.cell? ⟨b, 12, none⟩ = some (.int .i64 R.cnt) := (cell_of_list (o := 12) hb).trans rfl
  have z0 : ∀ o, w.frozen? ⟨b, o, none⟩ = false := fun o => by simp [World.frozen?, hb]
  have hb1 := set_of_list (o := 12) (set_of_list (o := 4) hb (.int .i64 2)) (.int .i64 0)
  have hs1 : Sets (fun g => g = b) w ((w.setCell ⟨b, 4, none⟩ (.int .i64 2)).setCell ⟨b, 12, none⟩ (.int .i64 0)) := ((Sets.refl (S := fun g => g = b) w).set (g := b) (fun _ => rfl) 4 _).set (g := b) (fun _ => rfl) 12 _
  obtain ⟨w1, hw1⟩ : ∃ w1, (w.setCell ⟨b, 4, none⟩ (.int .i64 2)).setCell ⟨b, 12, none⟩ (.int .i64 0) = w1 := ⟨_, rfl⟩
  have hz1 : w1.heap.size = w.heap.size := by rw [← hw1]; simp [World.setCell]
  rw [hw1] at hb1 hs1
  have k5 : w1.cell? ⟨b, 5, none⟩ = some (.bool (R.C 0)) := (cell_of_list (o := 5) hb1).trans rfl
  have k6 : w1.cell? ⟨b, 6, none⟩ = some (.bool (R.C 1)) := (cell_of_list (o := 6) hb1).trans rfl
  have k7 : w1.cell? ⟨b, 7, none⟩ = some (.bool (R.C 2)) := (cell_of_list (o := 7) hb1).trans rfl
  have k8 : w1.cell? ⟨b, 8, none⟩ = some (.bool (R.C 3)) := (cell_of_list (o := 8) hb1).trans rfl
  have k9 : w1.cell? ⟨b, 9, none⟩ = some (.bool (R.C 4)) := (cell_of_list (o := 9) hb1).trans rfl
  have k10 : w1.cell? ⟨b, 10, none⟩ = some (.bool (R.C 5)) := (cell_of_list (o := 10) hb1).trans rfl
  have k11 : w1.cell? ⟨b, 11, none⟩ = some (.bool (R.C 6)) := (cell_of_list (o := 11) hb1).trans rfl
  have z1 : ∀ o, w1.frozen? ⟨b, o, none⟩ = false := fun o => by simp [World.frozen?, hb1]
  have hb2 : (((((((w1.setCell ⟨b, 5, none⟩ (.bool false)).setCell ⟨b, 6, none⟩ (.bool false)).setCell ⟨b, 7, none⟩ (.bool false)).setCell ⟨b, 8, none⟩ (.bool false)).setCell ⟨b, 9, none⟩ (.bool false)).setCell ⟨b, 10, none⟩ (.bool false)).setCell ⟨b, 11, none⟩ (.bool false)).heap[b]? = some (.cells (rsL (fillR R) 0 v).toArray 79 (0, 0)) :=
    set_of_list (set_of_list (set_of_list (set_of_list (set_of_list (set_of_list (set_of_list hb1 _) _) _) _) _) _) _
  have hs2 : Sets (fun g => g = b) w (((((((w1.setCell ⟨b, 5, none⟩ (.bool false)).setCell ⟨b, 6, none⟩ (.bool false)).setCell ⟨b, 7, none⟩ (.bool false)).setCell ⟨b, 8, none⟩ (.bool false)).setCell ⟨b, 9, none⟩ (.bool false)).setCell ⟨b, 10, none⟩ (.bool false)).setCell ⟨b, 11, none⟩ (.bool false)) := (((((((hs1).set (g := b) (fun e => rfl) 5 _).set (g := b) (fun e => rfl) 6 _).set (g := b) (fun e => rfl) 7 _).set (g := b) (fun e => rfl) 8 _).set (g := b) (fun e => rfl) 9 _).set (g := b) (fun e => rfl) 10 _).set (g := b) (fun e => rfl) 11 _
  have hz2 : (((((((w1.setCell ⟨b, 5, none⟩ (.bool false)).setCell ⟨b, 6, none⟩ (.bool false)).setCell ⟨b, 7, none⟩ (.bool false)).setCell ⟨b, 8, none⟩ (.bool false)).setCell ⟨b, 9, none⟩ (.bool false)).setCell ⟨b, 10, none⟩ (.bool false)).setCell ⟨b, 11, none⟩ (.bool false)).heap.size = w.heap.size := by rw [← hz1]; simp [World.setCell]
  have hr2 := h.put (R' := fillR R) hb ho hb2 rfl hs2
  obtain ⟨w2, hw2⟩ : ∃ w2, ((((((w1.setCell ⟨b, 5, none⟩ (.bool false)).setCell ⟨b, 6, none⟩ (.bool false)).setCell ⟨b, 7, none⟩ (.bool false)).setCell ⟨b, 8, none⟩ (.bool false)).setCell ⟨b, 9, none⟩ (.bool false)).setCell ⟨b, 10, none⟩ (.bool false)).setCell ⟨b, 11, none⟩ (.bool false) = w2 := ⟨_, rfl⟩
  rw [hw2] at hr2 hs2 hz2
  have HSN := hide (rsends_any hr2 (show (fillR R).L.length ≤ _ from hl) (.inr (.inl rfl)) (show 1 ≤ (fillR R).n ∧ _ from hn))
  rw [hz2] at HSN
  have HR2 := hide hr2
  have HS2 := hide hs2
  have HW1 := hide hw1
  have HW2 := hide hw2
  have HZ2 := hide hz2
  have hzv := zero7
  clear h hb ho hp hb1 hs1 hw1 hb2 hs2 hw2 hr2 hz1 hz2
  go_enter Try.func31, Try.ntmps31
  go_upto_region 3 with fail
  try rw [HW1.out]
  go_upto_region 4 with fail
  try rw [HW2.out]
  clear k5 k6 k7 k8 k9 k10 k11 hzv
  go_wp2_with fail
  refine (Calls.mono HSN.out ?_); rintro e w3 ⟨v2, N, rfl, h1, h2, hb3⟩
  obtain ⟨A, c, rfl, _, _⟩ := OwnL.row Mg.cells_len h1.own
  have H1 := hide h1
  have H2 := hide h2
  have HB : Hid (Below w2.heap.size w2 w3) := hide (by rw [HZ2.out]; exact hb3)
  clear h1 h2 hb3 HSN
  go_wp2_with fail
  go_ret
  exact ⟨_, N, rfl, HR2.out.below HB.out, H1.out, H2.out, HS2.out.trans (Sets.of (S := fun _ => False) HB.out) (fun _ _ h => h.elim)⟩
end Go.Proofs.Ytikecafblampeaa
