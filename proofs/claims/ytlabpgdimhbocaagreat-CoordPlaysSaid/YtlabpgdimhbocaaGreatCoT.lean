/- coord.Call: Tick, Done: contracts. Conditions: the call as it lies. -/
import Derived.Test.YtlabpgdimhbocaaGreatCoE
namespace Go.Proofs.YtlabpgdimhbocaaGreat
set_option linter.unusedVariables false
set_option linter.unusedSimpArgs false
open Go.ChangeShapes Go.WideShapes Go.ChangeAt Go.RowKit

theorem CoO.wide {w0 w w' : World} {b : Nat} {X : Nat → Prop} {R : Co} (h : CoO w0 w b X R) (hb : Below w.heap.size w w') : CoO w0 w' b (Xn X w w') R :=
  (h.below hb).more (fun _ hg => .inl hg) (fun g hg => by
    rcases hg with hg | hg
    · exact (h.below hb).xs g hg
    · exact ⟨Nat.le_trans h.low.size hg.1, hg.2⟩)
theorem CoO.xn {w0 w w1 w' : World} {b : Nat} {X : Nat → Prop} {R : Co} (h : CoO w0 w' b (Xn X w1 w') R) (hz : w1.heap.size = w.heap.size) : CoO w0 w' b (Xn X w w') R := by
  unfold Xn at h ⊢
  rw [hz] at h
  exact h
/-- What a Tick makes of a call, and what it tells. -/
def tick1C (R : Co) : Co := { R with tk := R.tk + 1 }
def ctickR (R : Co) : Co := if R.dn = true then R else if R.tk + 1 = 20 then end1C (tick1C R) 20 R.ver [] else tick1C R
def ctickM (R : Co) : List Mg := if R.dn = true then [] else if R.tk + 1 = 20 then [] else if (R.tk + 1) % 3 = 0 then csendTo (tick1C R) R.n.toNat else []
set_option maxRecDepth 100000 in
set_option maxHeartbeats 3200000 in
theorem ctick_any {w0 w : World} {b : Nat} {X : Nat → Prop} {R : Co} (h : CoO w0 w b X R) (hn : 1 ≤ R.n ∧ R.n ≤ 7) (hcs : 0 ≤ R.cs ∧ R.cs ≤ 255) (ht : 0 ≤ R.tk ∧ R.tk ≤ 1000000) (hd : R.dn = false → R.d = 0) :
    Calls Tryz.prog 15 #[.pointer (some ⟨b, 0, none⟩)] w fun e w' => ∃ v N, e = .returned v ∧ CoO w0 w' b (Xn X w w') (ctickR R) ∧ MsO w.heap.size w' v N ∧ N.map Mg.bare = ctickM R ∧ Sets (fun g => g = b) w w' := by
  obtain ⟨vg, va, hb, hg, ha⟩ := h.row
  have c4 : w.cell? ⟨b, 29, none⟩ = some (.bool R.dn) := (cell_of_list (o := 29) hb).trans rfl
  have c14 : w.cell? ⟨b, 17, none⟩ = some (.int .i64 R.tk) := (cell_of_list (o := 17) hb).trans rfl
  have z14 : w.frozen? ⟨b, 17, none⟩ = false := by simp [World.frozen?, hb]
  have htw : IntKind.i64.wrap (R.tk + 1) = R.tk + 1 := by rw [IntKind.wrap_i64]; omega
  have HH := hide h
  by_cases h3 : R.dn = true
  · rw [h3] at c4
    have HT : Hid (ctickR R = R ∧ ctickM R = []) := hide ⟨by unfold ctickR; rw [if_pos h3], by unfold ctickM; rw [if_pos h3]⟩
    clear h hb hg ha h3
    go_enter Tryz.func15, Tryz.ntmps15
    go_wp2_with fail
    go_ret
    exact ⟨_, [], rfl, by rw [HT.out.1]; exact HH.out.wide (Below.refl _ _), MsO.nil_ _ _, by rw [HT.out.2]; rfl, Sets.refl _⟩
  rw [show R.dn = false by simpa using h3] at c4
  have hb1 : (w.setCell ⟨b, 17, none⟩ (.int .i64 (R.tk + 1))).heap[b]? = some (.cells (coL (tick1C R) 0 vg va).toArray 68 (0, 0)) := set_of_list hb _
  have hs1 : Sets (fun g => g = b) w (w.setCell ⟨b, 17, none⟩ (.int .i64 (R.tk + 1))) := (Sets.refl (S := fun g => g = b) w).set (g := b) (fun _ => rfl) 17 _
  have hr1 := h.put (R' := tick1C R) hg ha hb1 rfl rfl hs1
  have hz1 : (w.setCell ⟨b, 17, none⟩ (.int .i64 (R.tk + 1))).heap.size = w.heap.size := by simp [World.setCell]
  obtain ⟨w1, hw1⟩ : ∃ w1, w.setCell ⟨b, 17, none⟩ (.int .i64 (R.tk + 1)) = w1 := ⟨_, rfl⟩
  rw [hw1] at hb1 hs1 hr1 hz1
  have d14 : w1.cell? ⟨b, 17, none⟩ = some (.int .i64 (R.tk + 1)) := (cell_of_list (o := 17) hb1).trans rfl
  have d3 : w1.cell? ⟨b, 7, none⟩ = some (.int .u64 R.ver) := (cell_of_list (o := 7) hb1).trans rfl
  have HE := hide (cend_any (LI := []) hr1 (show (tick1C R).d = 0 from hd (by simpa using h3)) 20 R.ver (fun e => by omega))
  have HSN := hide (csend_any hr1 (show 1 ≤ (tick1C R).n ∧ _ from hn) (show 0 ≤ (tick1C R).cs ∧ _ from hcs))
  rw [hz1] at HSN
  have HZS := hide hz1
  have HR1 := hide hr1
  have HS1 := hide hs1
  have HW1 := hide hw1
  have HH3 := hide h3
  clear h hb hg ha hb1 hs1 hr1 hw1 h3
  obtain ⟨t, htt⟩ : ∃ t, R.tk + 1 = t := ⟨_, rfl⟩
  have HTT := hide htt
  rw [htt] at d14
  have ht0 : 0 ≤ t := by omega
  by_cases h40 : R.tk + 1 = 20
  · obtain rfl : t = 20 := by omega
    have HT : Hid (ctickR R = end1C (tick1C R) 20 R.ver [] ∧ ctickM R = []) := hide ⟨by unfold ctickR; rw [if_neg HH3.out, if_pos h40], by unfold ctickM; rw [if_neg HH3.out, if_pos h40]⟩
    clear h40 htt
    go_enter Tryz.func15, Tryz.ntmps15
    go_upto_region 4 with fail
    try rw [HW1.out]
    go_wp2_with fail
    refine (Calls.mono HE.out ?_); rintro e w2 ⟨rfl, h1, h2⟩
    have H1 := hide h1
    have H2 := hide (HS1.out.trans h2 (fun _ _ h => h))
    clear h1 h2 HE HSN
    go_wp2_with fail
    go_ret
    exact ⟨_, [], rfl, by rw [HT.out.1]; exact H1.out.xn HZS.out, MsO.nil_ _ _, by rw [HT.out.2]; rfl, H2.out⟩
  have h40t : ¬ t = 20 := by omega
  have h40I : (t == 20) = false := beq_eq_false_iff_ne.2 h40t
  have HTR : Hid (ctickR R = tick1C R) := hide (by unfold ctickR; rw [if_neg HH3.out, if_neg h40])
  by_cases hm : t % 3 = 0
  · have hmI : (t % 3 == 0) = true := beq_iff_eq.2 hm
    have HTM : Hid (ctickM R = csendTo (tick1C R) R.n.toNat) := hide (by unfold ctickM; rw [if_neg HH3.out, if_neg h40, HTT.out, if_pos hm])
    clear h40 htt
    go_enter Tryz.func15, Tryz.ntmps15
    go_upto_region 4 with fail
    try rw [HW1.out]
    go_wp2_with fail
    refine (Calls.mono HSN.out ?_); rintro e w2 ⟨v2, N, rfl, h1, h2, hb2⟩
    obtain ⟨A, c, rfl, _, _⟩ := OwnL.row Mg.cells_len h1.own
    have H1 := hide h1
    have H2 := hide h2
    have HB : Hid (Below w1.heap.size w1 w2) := hide (by rw [HZS.out]; exact hb2)
    clear h1 h2 hb2 HE HSN
    go_wp2_with fail
    go_ret
    exact ⟨_, N, rfl, by rw [HTR.out]; exact (HR1.out.wide HB.out).xn HZS.out, H1.out, by rw [HTM.out]; exact H2.out, HS1.out.trans (Sets.of (S := fun _ => False) HB.out) (fun _ _ h => h.elim)⟩
  · have hmI : (t % 3 == 0) = false := beq_eq_false_iff_ne.2 hm
    have HTM : Hid (ctickM R = []) := hide (by unfold ctickM; rw [if_neg HH3.out, if_neg h40, HTT.out, if_neg hm])
    clear h40 htt
    go_enter Tryz.func15, Tryz.ntmps15
    go_upto_region 4 with fail
    try rw [HW1.out]
    go_wp2_with fail
    go_ret
    exact ⟨_, [], rfl, by rw [HTR.out]; exact (HR1.out.wide (Below.refl _ _)).xn HZS.out, MsO.nil_ _ _, by rw [HTM.out]; rfl, HS1.out⟩
theorem j_startS {P : Program} {ops : Array Oper} {Q : Exit → Act → World → Prop} (F : List Nat) {S : World → Prop} {id : Nat} {a : Act} {w : World} (hm : P.follows .mixedOrders = true) (h : wpAnyJ P .any ops (NoPanic Q) F S ops.size (Array.replicate ops.size false) a w.drew) : (Code.region id ops true).wp P Q a w :=
  wp_region_noPanic (wp_region_any hm (wpAny_of_J _ _ _ _ h))
/-- What a call answers. -/
abbrev ansC (R : Co) (v : Value) : Value := .agg #[.int .u64 R.aid, .int .i64 R.ack, .int .i64 R.acs, .int .u64 R.act, .int .i64 R.acv, .int .i64 R.ae, .int .u64 R.av, v]
set_option maxRecDepth 100000 in
set_option maxHeartbeats 3200000 in
theorem cdone_any {w0 w : World} {b : Nat} {X : Nat → Prop} {R : Co} (h : CoO w0 w b X R) (hl : R.AL.length ≤ 1099511627776) : Calls Tryz.prog 17 #[.pointer (some ⟨b, 0, none⟩)] w fun e w' => ∃ v, e = .returned (.tuple #[ansC R v, .bool R.dn]) ∧ Ow w.heap.size w' v R.AL ∧ Below w.heap.size w w' := by
  have hba := below_alloc (Below.refl w.heap.size w) (.cells #[.int .u64 0, .int .i64 0, .int .i64 0, .int .u64 0, .int .i64 0, .int .i64 0, .int .u64 0, .slice none 0 0] 44)
  have hz1 := heap_alloc_new w (.cells #[.int .u64 0, .int .i64 0, .int .i64 0, .int .u64 0, .int .i64 0, .int .i64 0, .int .u64 0, .slice none 0 0] 44)
  obtain ⟨w1, hw1⟩ : ∃ w1, w.alloc (.cells #[.int .u64 0, .int .i64 0, .int .i64 0, .int .u64 0, .int .i64 0, .int .i64 0, .int .u64 0, .slice none 0 0] 44) = w1 := ⟨_, rfl⟩
  rw [hw1] at hba hz1
  have h1 := h.below hba
  obtain ⟨vg, va, hb, hg, ha⟩ := h1.row
  have hbl := h1.lt
  have c0 : w1.cell? ⟨b, 21, none⟩ = some (.int .u64 R.aid) := (cell_of_list (o := 21) hb).trans rfl
  have c1 : w1.cell? ⟨b, 22, none⟩ = some (.int .i64 R.ack) := (cell_of_list (o := 22) hb).trans rfl
  have c2 : w1.cell? ⟨b, 23, none⟩ = some (.int .i64 R.acs) := (cell_of_list (o := 23) hb).trans rfl
  have c3 : w1.cell? ⟨b, 24, none⟩ = some (.int .u64 R.act) := (cell_of_list (o := 24) hb).trans rfl
  have c4 : w1.cell? ⟨b, 25, none⟩ = some (.int .i64 R.acv) := (cell_of_list (o := 25) hb).trans rfl
  have c5 : w1.cell? ⟨b, 26, none⟩ = some (.int .i64 R.ae) := (cell_of_list (o := 26) hb).trans rfl
  have c6 : w1.cell? ⟨b, 27, none⟩ = some (.int .u64 R.av) := (cell_of_list (o := 27) hb).trans rfl
  have c7 : w1.cell? ⟨b, 28, none⟩ = some va := (cell_of_list (o := 28) hb).trans rfl
  obtain ⟨A, cA, rfl, hr, _, _⟩ := ha.1
  have hb2 := below_alloc (Below.refl w1.heap.size w1) (.cells #[.int .u64 R.aid, .int .i64 R.ack, .int .i64 R.acs, .int .u64 R.act, .int .i64 R.acv, .int .i64 R.ae, .int .u64 R.av, .slice A R.AL.length cA] 44)
  have hz2 := heap_alloc_new w1 (.cells #[.int .u64 R.aid, .int .i64 R.ack, .int .i64 R.acs, .int .u64 R.act, .int .i64 R.acv, .int .i64 R.ae, .int .u64 R.av, .slice A R.AL.length cA] 44)
  obtain ⟨w2, hw2⟩ : ∃ w2, w1.alloc (.cells #[.int .u64 R.aid, .int .i64 R.ack, .int .i64 R.acs, .int .u64 R.act, .int .i64 R.acv, .int .i64 R.ae, .int .u64 R.av, .slice A R.AL.length cA] 44) = w2 := ⟨_, rfl⟩
  rw [hw2] at hb2 hz2
  obtain ⟨g2, hg2⟩ : ∃ g2, w.heap.size = g2 := ⟨_, rfl⟩
  obtain ⟨g4, hg4⟩ : ∃ g4, w1.heap.size = g4 := ⟨_, rfl⟩
  rw [hg2] at hz1
  rw [hg4] at hz2
  have k7 : w2.cell? ⟨g4, 7, none⟩ = some (.slice A R.AL.length cA) := (cell_of_row _ _ 7 _ _ _ hz2).trans rfl
  have HBA := hide hba
  have HB2 := hide hb2
  have HB0 := hide (below_step hba hb2)
  have HZ1 := hide ((hb2.block g2 (Array.getElem?_eq_some_iff.1 hz1).1).trans hz1)
  have HZ2 := hide hz2
  have HBB := hide ((hb2.block b hbl).trans hb)
  have HR := hide (hr.below hb2)
  have HW1 := hide hw1
  have HW2 := hide hw2
  have HG2 := hide hg2
  have HG4 := hide hg4
  have HLT : Hid (b < g2 ∧ g2 < g4) := hide ⟨by rw [← hg2]; exact h.lt, by rw [← hg4]; exact (Array.getElem?_eq_some_iff.1 hz1).1⟩
  clear h h1 hb hg ha hba hz1 hb2 hz2 hw1 hw2 hg2 hg4 hr
  go_enter Tryz.func17, Tryz.ntmps17
  go_upto_region 1 with fail
  try rw [HW1.out]
  try rw [HG2.out]
  go_upto_region 2 with fail
  try rw [HW2.out]
  try rw [HG4.out]
  clear c0 c1 c2 c3 c4 c5 c6 c7 hbl
  go_wp2_with (at_builtin; refine wpList_append_items rfl (.const (.slice none 0 0)) (.tmp 10) rfl w2.heap.size w2.heap.size w2 w2 _ [] A R.AL.length cA R.AL rfl rfl rfl HR.out (Ow.nil_ _ _) (Below.refl _ _) (Nat.le_refl _) (Nat.le_refl _) (by simp only [List.length_nil]; omega) ?_; intro v3 w3 ho3 hb3 hg3; rw [List.nil_append] at ho3; obtain ⟨A2, c2, rfl, hr3, hlo3, hc3, hc4⟩ := OwnL.row It.cells_len ho3; have HO3 := hide ho3; have HB3 := hide hb3; have hk4 := (hb3.block g4 (Array.getElem?_eq_some_iff.1 HZ2.out).1).trans HZ2.out; have m7 := (cell_of_row _ _ 7 _ _ _ hk4).trans rfl; have mz : ∀ o, w3.frozen? ⟨g4, o, none⟩ = false := (fun o => by simp [World.frozen?, hk4]); have HK4 := hide hk4; have hf4 : ∀ q, (Value.slice A2 R.AL.length c2).ownBlock = some q → w2.heap.size ≤ q := (fun q hq => (OwnL.lt ho3 q hq).1); have HF4 := hide hf4; clear ho3 hb3 hg3 hk4 hr3 hlo3 k7 hf4)
  have hz4 := set_of_list (o := 7) HK4.out (.slice A2 R.AL.length c2)
  have hs3 : Sets (fun c => c = g4) w3 (w3.setCell ⟨g4, 7, none⟩ (.slice A2 R.AL.length c2)) := (Sets.refl (S := fun c => c = g4) w3).set (g := g4) (fun _ => rfl) 7 _
  have hzg2 := (hs3.block g2 (Nat.lt_of_lt_of_le (Array.getElem?_eq_some_iff.1 HZ1.out).1 HB3.out.size) (by have := HLT.out; omega)).trans ((HB3.out.block g2 (Array.getElem?_eq_some_iff.1 HZ1.out).1).trans HZ1.out)
  have hzb := (hs3.block b (Nat.lt_of_lt_of_le (Array.getElem?_eq_some_iff.1 HBB.out).1 HB3.out.size) (by have := HLT.out; omega)).trans ((HB3.out.block b (Array.getElem?_eq_some_iff.1 HBB.out).1).trans HBB.out)
  have HO4 := hide (OwnL.sets HO3.out hs3 (fun q hq e => by have := HF4.out q hq; have := (Array.getElem?_eq_some_iff.1 HZ2.out).1; omega))
  have HBV := hide (Sets.below (below_step HB0.out HB3.out) hs3 (fun c e => by rw [e, ← HG4.out]; exact HBA.out.size) (below_step HB0.out HB3.out).size)
  obtain ⟨wv, hwv⟩ : ∃ wv, w3.setCell ⟨g4, 7, none⟩ (.slice A2 R.AL.length c2) = wv := ⟨_, rfl⟩
  rw [hwv] at hz4 hzg2 hzb HO4 HBV
  rw [hwv]
  obtain ⟨ud, hud⟩ : ∃ ud, wv.drew = ud := ⟨_, rfl⟩
  have HUD : Hid (Below wv.heap.size wv ud) := hide (by rw [← hud]; exact (Below.refl _ _).drew)
  have hz4d := (HUD.out.block g4 (Array.getElem?_eq_some_iff.1 hz4).1).trans hz4
  have hzbd := (HUD.out.block b (Array.getElem?_eq_some_iff.1 hzb).1).trans hzb
  have hzd : ud.heap[g2]? = some (.cells [.int .u64 0, .int .i64 0, .int .i64 0, .int .u64 0, .int .i64 0, .int .i64 0, .int .u64 0, .slice none 0 0].toArray 44 (0, 0)) := (HUD.out.block g2 (Array.getElem?_eq_some_iff.1 hzg2).1).trans hzg2
  have HC : Hid (∀ W : World, Sets (fun c => c = g2) ud W → W.cell? ⟨g4, 0, none⟩ = some (.int .u64 R.aid) ∧ W.cell? ⟨g4, 1, none⟩ = some (.int .i64 R.ack) ∧ W.cell? ⟨g4, 2, none⟩ = some (.int .i64 R.acs) ∧ W.cell? ⟨g4, 3, none⟩ = some (.int .u64 R.act) ∧ W.cell? ⟨g4, 4, none⟩ = some (.int .i64 R.acv) ∧ W.cell? ⟨g4, 5, none⟩ = some (.int .i64 R.ae) ∧ W.cell? ⟨g4, 6, none⟩ = some (.int .u64 R.av) ∧ W.cell? ⟨g4, 7, none⟩ = some (.slice A2 R.AL.length c2) ∧ W.cell? ⟨b, 29, none⟩ = some (.bool R.dn)) := hide (fun W hW => by
    have hk4 := (hW.block g4 (Array.getElem?_eq_some_iff.1 hz4d).1 (by have := HLT.out; omega)).trans hz4d
    have hk := (hW.block b (Array.getElem?_eq_some_iff.1 hzbd).1 (by have := HLT.out; omega)).trans hzbd
    exact ⟨(cell_of_list (o := 0) hk4).trans rfl, (cell_of_list (o := 1) hk4).trans rfl, (cell_of_list (o := 2) hk4).trans rfl, (cell_of_list (o := 3) hk4).trans rfl, (cell_of_list (o := 4) hk4).trans rfl, (cell_of_list (o := 5) hk4).trans rfl, (cell_of_list (o := 6) hk4).trans rfl, (cell_of_list (o := 7) hk4).trans rfl, (cell_of_list (o := 29) hk).trans rfl⟩)
  have HZU : Hid (ud.cell? ⟨g2, 0, none⟩ = some (.int .u64 0) ∧ ud.cell? ⟨g2, 1, none⟩ = some (.int .i64 0) ∧ ud.cell? ⟨g2, 2, none⟩ = some (.int .i64 0) ∧ ud.cell? ⟨g2, 3, none⟩ = some (.int .u64 0) ∧ ud.cell? ⟨g2, 4, none⟩ = some (.int .i64 0) ∧ ud.cell? ⟨g2, 5, none⟩ = some (.int .i64 0) ∧ ud.cell? ⟨g2, 6, none⟩ = some (.int .u64 0) ∧ ud.cell? ⟨g2, 7, none⟩ = some (.slice none 0 0)) := hide
    ⟨(cell_of_list (o := 0) hzd).trans rfl, (cell_of_list (o := 1) hzd).trans rfl, (cell_of_list (o := 2) hzd).trans rfl, (cell_of_list (o := 3) hzd).trans rfl, (cell_of_list (o := 4) hzd).trans rfl, (cell_of_list (o := 5) hzd).trans rfl, (cell_of_list (o := 6) hzd).trans rfl, (cell_of_list (o := 7) hzd).trans rfl⟩
  have HFZ : Hid (∀ o, ud.frozen? ⟨g2, o, none⟩ = false) := hide (fun o => by simp [World.frozen?, hzd])
  have HZL := hide hzd
  have HUW := hide hud
  have HOD := hide (OwnL.below HO4.out HUD.out)
  have HBD := hide (below_step HBV.out HUD.out)
  clear hz4 hs3 hzg2 hzb hwv hz4d hzbd hzd hud m7 mz HO3 HO4 HBV HK4
  refine j_startS [] (S := fun W => Sets (fun c => c = g2) ud W) (by kernel_rfl) ?_
  rw [HUW.out]
  have HS : Hid (Sets (fun c => c = g2) ud ud) := hide (Sets.refl _)
  refine' wpAnyJ_take (i := 0) (v := _) [] ?hi0n1 (by kernel_rfl) (by kernel_rfl) (by kernel_rfl) (by kernel_rfl) (by kernel_rfl) (Or.inl ⟨?hw0n1, ?hy0n1⟩) HS.out ?rest0n1
  case hi0n1 => (simp only [List.getElem?_toArray, List.getElem?_cons_succ, List.getElem?_cons_zero]; rfl)
  case hw0n1 => rfl
  case hy0n1 => (intro w' hw'; obtain ⟨j0, j1, j2, j3, j4, j5, j6, j7, j8⟩ := HC.out _ hw'; go_simp; try with_reducible rfl)
  try simp only [Act.put, List.setIfInBounds_toArray, List.set_cons_zero, List.set_cons_succ]
  refine' wpAnyJ_take (i := 1) (v := _) [] ?hi1n2 (by kernel_rfl) (by kernel_rfl) (by kernel_rfl) (by kernel_rfl) (by kernel_rfl) (Or.inl ⟨?hw1n2, ?hy1n2⟩) HS.out ?rest1n2
  case hi1n2 => (simp only [List.getElem?_toArray, List.getElem?_cons_succ, List.getElem?_cons_zero]; rfl)
  case hw1n2 => rfl
  case hy1n2 => (intro w' hw'; go_simp; try with_reducible rfl)
  try simp only [Act.put, List.setIfInBounds_toArray, List.set_cons_zero, List.set_cons_succ]
  refine' wpAnyJ_take (i := 2) (v := _) [] ?hi2n3 (by kernel_rfl) (by kernel_rfl) (by kernel_rfl) (by kernel_rfl) (by kernel_rfl) (Or.inl ⟨?hw2n3, ?hy2n3⟩) HS.out ?rest2n3
  case hi2n3 => (simp only [List.getElem?_toArray, List.getElem?_cons_succ, List.getElem?_cons_zero]; rfl)
  case hw2n3 => rfl
  case hy2n3 => (intro w' hw'; go_simp; try with_reducible rfl)
  try simp only [Act.put, List.setIfInBounds_toArray, List.set_cons_zero, List.set_cons_succ]
  refine' wpAnyJ_take (i := 3) (v := _) [] ?hi3n4 (by kernel_rfl) (by kernel_rfl) (by kernel_rfl) (by kernel_rfl) (by kernel_rfl) (Or.inl ⟨?hw3n4, ?hy3n4⟩) HS.out ?rest3n4
  case hi3n4 => (simp only [List.getElem?_toArray, List.getElem?_cons_succ, List.getElem?_cons_zero]; rfl)
  case hw3n4 => rfl
  case hy3n4 => (intro w' hw'; go_simp; try with_reducible rfl)
  try simp only [Act.put, List.setIfInBounds_toArray, List.set_cons_zero, List.set_cons_succ]
  refine' wpAnyJ_take (i := 4) (v := _) [] ?hi4n5 (by kernel_rfl) (by kernel_rfl) (by kernel_rfl) (by kernel_rfl) (by kernel_rfl) (Or.inl ⟨?hw4n5, ?hy4n5⟩) HS.out ?rest4n5
  case hi4n5 => (simp only [List.getElem?_toArray, List.getElem?_cons_succ, List.getElem?_cons_zero]; rfl)
  case hw4n5 => rfl
  case hy4n5 => (intro w' hw'; obtain ⟨j0, j1, j2, j3, j4, j5, j6, j7, j8⟩ := HC.out _ hw'; go_simp; try with_reducible rfl)
  try simp only [Act.put, List.setIfInBounds_toArray, List.set_cons_zero, List.set_cons_succ]
  refine' wpAnyJ_step (i := 5) (o := _) (by kernel_rfl) ?ho5n6 (fun K hK => ?step5n6)
  case ho5n6 => (simp only [List.getElem?_toArray, List.getElem?_cons_succ, List.getElem?_cons_zero]; rfl)
  obtain ⟨s0, s1, s2, s3, s4, s5, s6, s7⟩ := HZU.out
  have sf := HFZ.out
  go_simp
  have hs8 : Sets (fun c => c = g2) ud ((((((((ud.setCell ⟨g2, 0, none⟩ (.int .u64 R.aid)).setCell ⟨g2, 1, none⟩ (.int .i64 R.ack)).setCell ⟨g2, 2, none⟩ (.int .i64 R.acs)).setCell ⟨g2, 3, none⟩ (.int .u64 R.act)).setCell ⟨g2, 4, none⟩ (.int .i64 R.acv)).setCell ⟨g2, 5, none⟩ (.int .i64 R.ae)).setCell ⟨g2, 6, none⟩ (.int .u64 R.av)).setCell ⟨g2, 7, none⟩ (.slice A2 R.AL.length c2)) := (((((((((Sets.refl (S := fun c => c = g2) ud).set (g := g2) (fun _ => rfl) 0 (.int .u64 R.aid)).set (g := g2) (fun _ => rfl) 1 (.int .i64 R.ack)).set (g := g2) (fun _ => rfl) 2 (.int .i64 R.acs)).set (g := g2) (fun _ => rfl) 3 (.int .u64 R.act)).set (g := g2) (fun _ => rfl) 4 (.int .i64 R.acv)).set (g := g2) (fun _ => rfl) 5 (.int .i64 R.ae)).set (g := g2) (fun _ => rfl) 6 (.int .u64 R.av)).set (g := g2) (fun _ => rfl) 7 (.slice A2 R.AL.length c2))
  have hz8 := (set_of_list (o := 7) (set_of_list (o := 6) (set_of_list (o := 5) (set_of_list (o := 4) (set_of_list (o := 3) (set_of_list (o := 2) (set_of_list (o := 1) (set_of_list (o := 0) HZL.out (.int .u64 R.aid)) (.int .i64 R.ack)) (.int .i64 R.acs)) (.int .u64 R.act)) (.int .i64 R.acv)) (.int .i64 R.ae)) (.int .u64 R.av)) (.slice A2 R.AL.length c2))
  refine hK.out _ _ hs8 ?_
  clear hK K s0 s1 s2 s3 s4 s5 s6 s7 sf
  obtain ⟨u8, hu8⟩ : ∃ u8, (((((((ud.setCell ⟨g2, 0, none⟩ (.int .u64 R.aid)).setCell ⟨g2, 1, none⟩ (.int .i64 R.ack)).setCell ⟨g2, 2, none⟩ (.int .i64 R.acs)).setCell ⟨g2, 3, none⟩ (.int .u64 R.act)).setCell ⟨g2, 4, none⟩ (.int .i64 R.acv)).setCell ⟨g2, 5, none⟩ (.int .i64 R.ae)).setCell ⟨g2, 6, none⟩ (.int .u64 R.av)).setCell ⟨g2, 7, none⟩ (.slice A2 R.AL.length c2) = u8 := ⟨_, rfl⟩
  rw [hu8] at hz8 hs8
  rw [hu8]
  have HS := hide hs8
  try simp only [Act.put, List.setIfInBounds_toArray, List.set_cons_zero, List.set_cons_succ]
  refine' wpAnyJ_take (i := 6) (v := _) [] ?hi6n7 (by kernel_rfl) (by kernel_rfl) (by kernel_rfl) (by kernel_rfl) (by kernel_rfl) (Or.inl ⟨?hw6n7, ?hy6n7⟩) HS.out ?rest6n7
  case hi6n7 => (simp only [List.getElem?_toArray, List.getElem?_cons_succ, List.getElem?_cons_zero]; rfl)
  case hw6n7 => rfl
  case hy6n7 => (intro w' hw'; go_simp; try with_reducible rfl)
  try simp only [Act.put, List.setIfInBounds_toArray, List.set_cons_zero, List.set_cons_succ]
  refine wpAnyJ_done (by kernel_rfl) ?_ _
  refine NoPanic.normal ?_
  have R0 : Hid (u8.cell? ⟨g2, 0, none⟩ = some (.int .u64 R.aid)) := hide ((cell_of_list (o := 0) hz8).trans rfl)
  have R1 : Hid (u8.cell? ⟨g2, 1, none⟩ = some (.int .i64 R.ack)) := hide ((cell_of_list (o := 1) hz8).trans rfl)
  have R2 : Hid (u8.cell? ⟨g2, 2, none⟩ = some (.int .i64 R.acs)) := hide ((cell_of_list (o := 2) hz8).trans rfl)
  have R3 : Hid (u8.cell? ⟨g2, 3, none⟩ = some (.int .u64 R.act)) := hide ((cell_of_list (o := 3) hz8).trans rfl)
  have R4 : Hid (u8.cell? ⟨g2, 4, none⟩ = some (.int .i64 R.acv)) := hide ((cell_of_list (o := 4) hz8).trans rfl)
  have R5 : Hid (u8.cell? ⟨g2, 5, none⟩ = some (.int .i64 R.ae)) := hide ((cell_of_list (o := 5) hz8).trans rfl)
  have R6 : Hid (u8.cell? ⟨g2, 6, none⟩ = some (.int .u64 R.av)) := hide ((cell_of_list (o := 6) hz8).trans rfl)
  have R7 : Hid (u8.cell? ⟨g2, 7, none⟩ = some (.slice A2 R.AL.length c2)) := hide ((cell_of_list (o := 7) hz8).trans rfl)
  have HB8 := hide (Sets.below HBD.out hs8 (fun c e => by rw [e, ← HG2.out]; exact Nat.le_refl _) HBD.out.size)
  have HO8 := hide (OwnL.base_ (OwnL.sets HOD.out hs8 (fun q hq e => by have := HF4.out q hq; have := (Array.getElem?_eq_some_iff.1 HZ2.out).1; have := HLT.out; omega)) HB0.out.size)
  clear hz8 hs8 hu8 HC HZU HFZ HZL HS HOD HBD
  go_wp2_with fail
  refine bodyPost_ret (v := .tuple #[ansC R (.slice A2 R.AL.length c2), .bool R.dn]) (by simp [ansC, results, Tryz.results17, go_sem, R0.out, R1.out, R2.out, R3.out, R4.out, R5.out, R6.out, R7.out]) rfl ?_
  exact ⟨_, rfl, HO8.out, HB8.out⟩
end Go.Proofs.YtlabpgdimhbocaaGreat
