/- net.Net: Take in vain, Drop, Send: contracts. Conditions: the net as it lies. -/
import Derived.Test.YtihhepojhoaacaaPetT
namespace Go.Proofs.Ytihhepojhoaacaa
set_option linter.unusedVariables false
set_option linter.unusedSimpArgs false
open Go.ChangeShapes Go.WideShapes Go.ChangeAt Go.RowKit
variable {Fr : Nat → Prop}

theorem ckd {w : World} {g o : Nat} {v : Value} {w' : World} (hg : g < w.heap.size) (h : w.cell? ⟨g, o, none⟩ = some v) (hb : Below w.heap.size w.drew w') : w'.cell? ⟨g, o, none⟩ = some v := (hb.cell (p := ⟨g, o, none⟩) hg).trans h
theorem hasB_no {n : Nat} {i : Int} (h : ¬ (0 ≤ i ∧ i < (n : Int))) : hasB n i = false := by
  unfold hasB
  by_cases h0 : 0 ≤ i
  · rw [decide_eq_false (fun h1 => h ⟨h0, h1⟩)]; simp
  · rw [decide_eq_false h0]; rfl
set_option maxRecDepth 100000 in
set_option maxHeartbeats 1600000 in
theorem take_miss {w : World} {b : Nat} {rb : Option Nat} {m : Nat} {C : List Mg} {l s : Int} (h : NetW Fr w b rb m C l s) (i : Int) (hi : ¬ (0 ≤ i ∧ i < (C.length : Int))) :
    Calls Try.prog 10 #[.pointer (some ⟨b, 0, none⟩), .int .i64 i] w fun e w' => e = .returned (.tuple #[zMg.val, .bool false]) ∧ Below w.heap.size w w' := by
  obtain ⟨v, M, hV, hrb, hMC⟩ := h.at_
  have hlen : M.length = C.length := by rw [← hMC, List.length_map]
  obtain ⟨A, c, rfl, hrow, hnc, hcm⟩ := hV.slice
  have hba := below_alloc (Below.refl w.heap.size w) (.cells #[.int .i64 0, .int .i64 0, .int .i64 0, .int .u64 0, .int .u64 0, .slice none 0 0] 28)
  have hz1 := heap_alloc_new w (.cells #[.int .i64 0, .int .i64 0, .int .i64 0, .int .u64 0, .int .u64 0, .slice none 0 0] 28)
  obtain ⟨w1, hw1⟩ : ∃ w1, w.alloc (.cells #[.int .i64 0, .int .i64 0, .int .i64 0, .int .u64 0, .int .u64 0, .slice none 0 0] 28) = w1 := ⟨_, rfl⟩
  rw [hw1] at hba hz1
  obtain ⟨hbl, ⟨q0, q1, q2, q3⟩, hz⟩ := nw_box (hV.below hba).box
  have HAS := hide (has_any i q1)
  rw [hlen, hasB_no hi] at HAS
  obtain ⟨s0, s1, s2, s3, s4, s5⟩ := six_cells hz1
  have sf : ∀ o, w1.frozen? ⟨w.heap.size, o, none⟩ = false := fun o => by simp [World.frozen?, hz1]
  have hr6 := put6m (.int .i64 0) (.int .i64 0) (.int .i64 0) (.int .u64 0) (.int .u64 0) (.slice none 0 0) hz1
  obtain ⟨r0, r1, r2, r3, r4, r5⟩ := six_cells hr6
  have R0 := hide r0; have R1 := hide r1; have R2 := hide r2; have R3 := hide r3; have R4 := hide r4; have R5 := hide r5
  have HFB := hide ((((((hba.setCell (p := ⟨w.heap.size, 0, none⟩) (Nat.le_refl _) (.int .i64 0)).setCell (p := ⟨w.heap.size, 1, none⟩) (Nat.le_refl _) (.int .i64 0)).setCell (p := ⟨w.heap.size, 2, none⟩) (Nat.le_refl _) (.int .i64 0)).setCell (p := ⟨w.heap.size, 3, none⟩) (Nat.le_refl _) (.int .u64 0)).setCell (p := ⟨w.heap.size, 4, none⟩) (Nat.le_refl _) (.int .u64 0)).setCell (p := ⟨w.heap.size, 5, none⟩) (Nat.le_refl _) (.slice none 0 0))
  have HW1 := hide hw1
  clear hV hrow hba hz1 hr6 r0 r1 r2 r3 r4 r5 h hMC hlen hi q0 q1 q2 q3 hz hw1 hrb
  go_enter Try.func10, Try.ntmps10
  go_upto_region 1 with fail
  try rw [HW1.out]
  clear HW1
  go_wp2_with (go_at_call 25; refine (Calls.mono HAS.out ?_); rintro e w2 ⟨rfl, rfl⟩)
  refine bodyPost_ret (v := .tuple #[zMg.val, .bool false]) (by simp [results, Try.results10, go_sem, R0.out, R1.out, R2.out, R3.out, R4.out, R5.out]) rfl ?_
  exact ⟨rfl, HFB.out⟩
theorem drop_miss {w : World} {b : Nat} {rb : Option Nat} {m : Nat} {C : List Mg} {l s : Int} (h : NetW Fr w b rb m C l s) (i : Int) (hi : ¬ (0 ≤ i ∧ i < (C.length : Int))) :
    Calls Try.prog 14 #[.pointer (some ⟨b, 0, none⟩), .int .i64 i] w fun e w' => e = .returned (.bool false) ∧ Below w.heap.size w w' := by
  have HT := hide (take_miss h i hi)
  clear h hi
  go_enter Try.func14, Try.ntmps14
  go_wp2_with fail
  refine (Calls.mono HT.out ?_); rintro e w1 ⟨rfl, hb⟩
  have HB := hide (below_step hb (below_alloc (Below.refl w1.heap.size w1) (.cells #[.int .i64 0, .int .i64 0, .int .i64 0, .int .u64 0, .int .u64 0, .slice none 0 0] 28)))
  clear hb
  go_wp2_with fail
  go_ret
  exact ⟨rfl, HB.out⟩
/-- One number more in a net's block. -/
theorem NetW.lost {w : World} {b : Nat} {rb : Option Nat} {m : Nat} {C : List Mg} {l s : Int} (h : NetW Fr w b rb m C l s) (l' : Int) : NetW Fr (w.setCell ⟨b, 2, none⟩ (.int .i64 l')) b rb m C l' s := by
  obtain ⟨v, M, h1, rfl, h3⟩ := h.at_
  have hst : Sets (fun c => c = b) w (w.setCell ⟨b, 2, none⟩ (.int .i64 l')) := (Sets.refl (S := fun c => c = b) w).set (g := b) (fun _ => rfl) 2 _
  refine ⟨⟨v, M, ⟨nw_put2 _ h1.box, OwnL.sets h1.own hst (fun g hg e => by have := OwnL.lt h1.own g hg; omega), fun x hx => ⟨(h1.rd x hx).1.sets hst (fun a ha hn e => by have := (h1.rd x hx).2 a ha hn; omega), (h1.rd x hx).2⟩, h1.pd⟩, rfl, h3⟩, h.ok⟩
theorem NetW.sent {w : World} {b : Nat} {rb : Option Nat} {m : Nat} {C : List Mg} {l s : Int} (h : NetW Fr w b rb m C l s) (s' : Int) : NetW Fr (w.setCell ⟨b, 3, none⟩ (.int .i64 s')) b rb m C l s' := by
  obtain ⟨v, M, h1, rfl, h3⟩ := h.at_
  have hst : Sets (fun c => c = b) w (w.setCell ⟨b, 3, none⟩ (.int .i64 s')) := (Sets.refl (S := fun c => c = b) w).set (g := b) (fun _ => rfl) 3 _
  refine ⟨⟨v, M, ⟨nw_put3 _ h1.box, OwnL.sets h1.own hst (fun g hg e => by have := OwnL.lt h1.own g hg; omega), fun x hx => ⟨(h1.rd x hx).1.sets hst (fun a ha hn e => by have := (h1.rd x hx).2 a ha hn; omega), (h1.rd x hx).2⟩, h1.pd⟩, rfl, h3⟩, h.ok⟩
set_option maxRecDepth 100000 in
set_option maxHeartbeats 1600000 in
theorem drop_hit {w : World} {b : Nat} {rb : Option Nat} {m : Nat} {C : List Mg} {l s : Int} (h : NetW Fr w b rb m C l s) (i : Nat) (hi : i < C.length) (hl : 0 ≤ l ∧ l ≤ 1099511627776) :
    Calls Try.prog 14 #[.pointer (some ⟨b, 0, none⟩), .int .i64 i] w fun e w' => ∃ rb', e = .returned (.bool true) ∧ NetW Fr w' b rb' m (C.eraseIdx i) (l + 1) s ∧ Sets (NBlk b rb) w w' ∧ MovedB w rb rb' := by
  have HT := hide (take_hit h i hi)
  have hlw : IntKind.i64.wrap (l + 1) = l + 1 := by rw [IntKind.wrap_i64]; omega
  generalize C.eraseIdx i = C2 at *
  clear h
  go_enter Try.func14, Try.ntmps14
  go_wp2_with fail
  refine (Calls.mono HT.out ?_); rintro e w1 ⟨x, rb', rfl, _, _, hN, hS, hM⟩
  have hba := below_alloc (Below.refl w1.heap.size w1) (.cells #[.int .i64 x.k, .int .i64 x.f, .int .i64 x.t, .int .u64 x.id, .int .u64 x.n, .slice x.A x.L.length x.c] 28)
  have hN2 := hN.below hba
  obtain ⟨v, M, hV, _, _⟩ := hN2.at_
  obtain ⟨hbl, ⟨q0, q1, q2, q3⟩, hz⟩ := nw_box hV.box
  have HI := hide (iadd_any b 2 l 1 _ q2 (hz 2) hlw)
  have HF := hide (hN2.lost (l + 1))
  have HS := hide (hS.trans (Sets.of (S := NBlk b rb) hba) (fun _ _ h => h) |>.set (g := b) (fun _ => .inl rfl) 2 (.int .i64 (l + 1)))
  have HM := hide hM
  clear hba hN hN2 hV q0 q1 q2 q3 hz hS hM HT
  go_wp2_with fail
  refine (Calls.mono HI.out ?_); rintro e w2 ⟨rfl, rfl⟩
  go_wp2_with fail
  go_ret
  exact ⟨rb', rfl, HF.out, HS.out, HM.out⟩
theorem app_msg (u : World) (base : Nat) (v : Value) (L : List Mg) (hown : OwnL Mg.cells 6 28 base u v L) (A : Option Addr) (c : Nat) (M : List Mg) (hr : RowAt Mg.cells 6 u A M) (hA : A = none → M = []) (hn : L.length + M.length ≤ 1000000) (hbase : base ≤ u.heap.size) :
    ∃ v' w', (Builtin.append_ #[41, 41] 41 #[v, .slice A M.length c]).run Try.prog u = .ok v' w' ∧ OwnL Mg.cells 6 28 base w' v' (L ++ M) ∧ u.grownBy w' v.ownBlock ∧ (v'.ownBlock = v.ownBlock ∨ v'.ownBlock = some u.heap.size) := by
  obtain ⟨i0, hi, hz0, hz1, hz2⟩ := info_parts Try.infoMsg
  exact run_append_row (P := Try.prog) u base 41 41 28 i0 _ 6 64 Try.underlying41 hi hz0 hz1 hz2 rfl (by omega) Mg.cells_len v L hown A c M hr hA (fun m _ => Mg.cells_one m) (by simp only [maxLen]; omega) (by omega) hbase
theorem step_app_msg {ops : Array Oper} {o : Oper} {a : Act} {u : World} {K : Act → World → Prop} {Q : Exit → Act → World → Prop} {E : Prop} (hgd : o.guard = none) (s x : Operand)
    (ho : o.op = .call { callee := .builtin .append, args := #[s, x], argTypes := #[41, 41] }) (hty : o.type = 41)
    (base : Nat) (v : Value) (L : List Mg) (hs : a.eval s = v) (hown : OwnL Mg.cells 6 28 base u v L) (A : Option Addr) (c n : Nat) (M : List Mg) (hM : M.length = n) (hx : a.eval x = .slice A n c) (hr : RowAt Mg.cells 6 u A M) (hn : L.length + n ≤ 1000000) (hbase : base ≤ u.heap.size)
    (h : ∀ v' w', OwnL Mg.cells 6 28 base w' v' (L ++ M) → u.grownBy w' v.ownBlock → (v'.ownBlock = v.ownBlock ∨ v'.ownBlock = some u.heap.size) → K (a.put o.dst v') w') : if Region.wanted o (yielded ops a.tmps) = true then Oper.wp Try.prog o a u K Q else E := by
  subst hM
  have hw : Region.wanted o (yielded ops a.tmps) = true := by simp [Region.wanted, hgd]
  rw [if_pos hw]
  obtain ⟨v', w', hrun, h2, h3, h4⟩ := app_msg u base v L hown A c M hr (fun e => by
    subst e
    cases M with
    | nil => rfl
    | cons a M => obtain ⟨b, off, e, _⟩ := hr (by simp); cases e) hn hbase
  unfold Oper.wp execOp
  simp only [ho, hty, resolve, invoke, builtin, Sem.run_bind, Sem.run_pure, Result.andThen_ok, List.map_toArray, List.map_cons, List.map_nil, hs, hx, hrun]
  exact h v' w' h2 h3 h4
theorem send_bad {w : World} {b : Nat} (x : Mg) (hx : x.rd w) (hl : x.L.length ≤ 9223372036854775807) (hk : mokB x = false) :
    Calls Try.prog 8 #[.pointer (some ⟨b, 0, none⟩), x.val] w fun e w' => e = .returned (.bool false) ∧ Below w.heap.size w w' := by
  have hba := below_alloc (Below.refl w.heap.size w) (.cells #[.int .i64 x.k, .int .i64 x.f, .int .i64 x.t, .int .u64 x.id, .int .u64 x.n, .slice x.A x.L.length x.c] 28)
  have HO := hide (mok_any x _ (hx.1.below hba) hl)
  rw [hk] at HO
  have HBA := hide hba
  clear hx hl hk hba
  go_enter Try.func8, Try.ntmps8
  go_wp2_with fail
  refine (Calls.mono HO.out ?_); rintro e w1 ⟨rfl, hb⟩
  have HB := hide (below_step HBA.out hb)
  clear hb
  go_wp2_with fail
  go_ret
  exact ⟨rfl, HB.out⟩
/-- What is under way behind one more; how many are lost then. -/
def sendC (m : Nat) (C : List Mg) (x : Mg) : List Mg := if m < C.length + 1 then (C ++ [x]).drop 1 else C ++ [x]
def sendL (m : Nat) (C : List Mg) : Int := if m < C.length + 1 then 1 else 0
set_option maxRecDepth 100000 in
set_option maxHeartbeats 6400000 in
theorem send_ok {w : World} (hFr : ∀ g, w.heap.size ≤ g → Fr g) {b : Nat} {rb : Option Nat} {m : Nat} {C : List Mg} {l s : Int} (h : NetW Fr w b rb m C l s) (x : Mg) (hx : x.rd w) (hxb : ∀ a, x.A = some a → x.L ≠ [] → ¬ NBlk b rb a.block) (hk : mokB x = true) (hC : C.length ≤ 100000) (hl : 0 ≤ l ∧ l ≤ 1099511627776) (hs : 0 ≤ s ∧ s ≤ 1099511627776) :
    Calls Try.prog 8 #[.pointer (some ⟨b, 0, none⟩), x.val] w fun e w' => ∃ rb', e = .returned (.bool true) ∧ NetW Fr w' b rb' m (sendC m C x.bare) (l + sendL m C) (s + 1) ∧ Sets (NBlk b rb) w w' ∧ MovedB w rb rb' := by
  have hxl : x.L.length ≤ 1500 := by unfold mokB at hk; simp at hk; omega
  have hba := below_alloc (Below.refl w.heap.size w) (.cells #[.int .i64 x.k, .int .i64 x.f, .int .i64 x.t, .int .u64 x.id, .int .u64 x.n, .slice x.A x.L.length x.c] 28)
  have hg1 := heap_alloc_new w (.cells #[.int .i64 x.k, .int .i64 x.f, .int .i64 x.t, .int .u64 x.id, .int .u64 x.n, .slice x.A x.L.length x.c] 28)
  have HO := hide (mok_any x _ (hx.1.below hba) (by omega))
  rw [hk] at HO
  have hsw : IntKind.i64.wrap (s + 1) = s + 1 := by rw [IntKind.wrap_i64]; omega
  have H := hide h
  have HX := hide hx
  have HXB := hide hxb
  have HBA := hide hba
  have HG1 := hide hg1
  have HK := hide hk
  have hlb := h.lt
  have hgl1 : w.heap.size < (w.alloc (.cells #[.int .i64 x.k, .int .i64 x.f, .int .i64 x.t, .int .u64 x.id, .int .u64 x.n, .slice x.A x.L.length x.c] 28)).heap.size := by simp
  clear h hx hxb hba hg1 hk
  go_enter Try.func8, Try.ntmps8
  go_wp2_with fail
  refine (Calls.mono HO.out ?_); rintro e w1 ⟨rfl, hb⟩
  have hb1 := below_step HBA.out hb
  have hN1 := H.out.below hb1
  obtain ⟨v, M, hV, hrb, hMC⟩ := hN1.at_
  obtain ⟨hbl, ⟨q0, q1, q2, q3⟩, hz⟩ := nw_box hV.box
  have HI := hide (iadd_any b 3 s 1 _ q3 (hz 3) hsw)
  have HB1 := hide hb1
  have HG2 := hide ((hb.block _ hgl1).trans HG1.out)
  have HN2 := hide (hN1.sent (s + 1))
  clear hb hb1 hN1 hV hrb hMC q0 q1 q2 q3 hz HG1 hgl1 HO M v
  go_wp2_with fail
  refine (Calls.mono HI.out ?_); rintro e w2 ⟨rfl, rfl⟩
  have hst : Sets (fun c => c = b) w1 (w1.setCell ⟨b, 3, none⟩ (.int .i64 (s + 1))) := (Sets.refl (S := fun c => c = b) w1).set (g := b) (fun _ => rfl) 3 _
  have HS2 : Hid (Sets (NBlk b rb) w (w1.setCell ⟨b, 3, none⟩ (.int .i64 (s + 1)))) := hide ((Sets.of (S := NBlk b rb) HB1.out).trans hst (fun _ _ e => .inl e))
  have hgz : w.heap.size < w1.heap.size := (Array.getElem?_eq_some_iff.1 HG2.out).1
  have HG3 := hide ((hst.block w.heap.size hgz (by omega)).trans HG2.out)
  obtain ⟨w3, hw3⟩ : ∃ w3, w1.setCell ⟨b, 3, none⟩ (.int .i64 (s + 1)) = w3 := ⟨_, rfl⟩
  rw [hw3] at HN2 HS2 HG3
  have HW3 := hide hw3
  clear hst HI HG2 hgz hw3
  obtain ⟨v, M, hV, hrb, hMC⟩ := HN2.out.at_
  obtain ⟨A, c, rfl, hrow, hnc, hcm⟩ := hV.slice
  obtain ⟨hbl2, ⟨q0, q1, q2, q3⟩, hz⟩ := nw_box hV.box
  have hgl3 : w.heap.size < w3.heap.size := (Array.getElem?_eq_some_iff.1 HG3.out).1
  obtain ⟨x0, x1, x2, x3, x4, x5⟩ := six_cells HG3.out
  obtain ⟨g, hgg⟩ : ∃ g, w.heap.size = g := ⟨_, rfl⟩
  have HGG0 := hide hgg
  rw [hgg] at x0 x1 x2 x3 x4 x5 hgl3 ⊢
  have HC : Hid (∀ W : World, Below w3.heap.size w3.drew W → (W.cell? ⟨b, 1, none⟩ = some (.slice A M.length c)) ∧ W.cell? ⟨g, 0, none⟩ = some (.int .i64 x.k) ∧ W.cell? ⟨g, 1, none⟩ = some (.int .i64 x.f) ∧ W.cell? ⟨g, 2, none⟩ = some (.int .i64 x.t) ∧ W.cell? ⟨g, 3, none⟩ = some (.int .u64 x.id) ∧ W.cell? ⟨g, 4, none⟩ = some (.int .u64 x.n) ∧ W.cell? ⟨g, 5, none⟩ = some (.slice x.A x.L.length x.c)) := hide (fun W hW =>
    ⟨ckd hbl2 q1 hW, ckd hgl3 x0 hW, ckd hgl3 x1 hW, ckd hgl3 x2 hW, ckd hgl3 x3 hW, ckd hgl3 x4 hW, ckd hgl3 x5 hW⟩)
  have HX3 : Hid (x.rd w3) := hide (HX.out.sets HS2.out HXB.out)
  have HCP : Hid (Calls Try.prog 24 #[x.val] w3.drew fun e w' => ∃ A' c', e = .returned (Mg.val { x with A := A', c := c' }) ∧ Ow w3.heap.size w' (.slice A' x.L.length c') x.L ∧ Below w3.drew.heap.size w3.drew w') := hide (mcopy_any x w3.drew (HX3.out.below (Below.refl _ _).drew) (by omega))
  have HOW := hide hV.own
  have HBX := hide hV.box
  have HVV := hide hV
  have HMC := hide hMC
  have hlen : M.length = C.length := by rw [← hMC, List.length_map]
  have hk6 : M.length + 1 ≤ 1000000 := by omega
  have HRO : Hid ((Value.slice A M.length c).ownBlock ≠ some b) := hide (fun e => by have := OwnL.lt hV.own b e; omega)
  have HRB := hide hrb
  have HLEN := hide hlen
  clear hV hrb hMC hrow q0 q1 q2 q3 hz x0 x1 x2 x3 x4 x5 hgg hcm hlen
  go_upto_region 4 with fail
  try rw [HW3.out]
  clear HW3
  refine j_start [8, 9, 10, 11, 0] (by kernel_rfl) ?_
  refine' wpAnyJ_takeW (i := 0) (v := _) ?hi0 (by kernel_rfl) (by kernel_rfl) (by kernel_rfl) (by kernel_rfl) (Or.inl ⟨?hw0, ?hy0⟩) ?rest0
  case hi0 => (simp only [List.getElem?_toArray, List.getElem?_cons_succ, List.getElem?_cons_zero]; rfl)
  case hw0 => rfl
  case hy0 => (intro w' hw'; go_simp; try with_reducible rfl)
  try simp only [Act.put, List.setIfInBounds_toArray, List.set_cons_zero, List.set_cons_succ]
  refine' j_take (i := 1) (v := _) [2, 3, 4, 8, 9, 10, 11] ?hi1 (by kernel_rfl) (by kernel_rfl) (by kernel_rfl) (by kernel_rfl) (by kernel_rfl) (Or.inl ⟨?hw1, ?hy1⟩) ?rest1
  case hi1 => (simp only [List.getElem?_toArray, List.getElem?_cons_succ, List.getElem?_cons_zero]; rfl)
  case hw1 => rfl
  case hy1 => (intro w' hw'; go_simp; try with_reducible rfl)
  try simp only [Act.put, List.setIfInBounds_toArray, List.set_cons_zero, List.set_cons_succ]
  refine' j_take (i := 2) (v := _) [3, 4, 8, 9, 10, 11] ?hi2 (by kernel_rfl) (by kernel_rfl) (by kernel_rfl) (by kernel_rfl) (by kernel_rfl) (Or.inl ⟨?hw2, ?hy2⟩) ?rest2
  case hi2 => (simp only [List.getElem?_toArray, List.getElem?_cons_succ, List.getElem?_cons_zero]; rfl)
  case hw2 => rfl
  case hy2 => (intro w' hw'; go_simp; try with_reducible rfl)
  try simp only [Act.put, List.setIfInBounds_toArray, List.set_cons_zero, List.set_cons_succ]
  refine' j_take (i := 3) (v := _) [4, 8, 9, 10, 11] ?hi3 (by kernel_rfl) (by kernel_rfl) (by kernel_rfl) (by kernel_rfl) (by kernel_rfl) (Or.inl ⟨?hw3, ?hy3⟩) ?rest3
  case hi3 => (simp only [List.getElem?_toArray, List.getElem?_cons_succ, List.getElem?_cons_zero]; rfl)
  case hw3 => rfl
  case hy3 => (intro w' hw'; go_simp; try with_reducible rfl)
  try simp only [Act.put, List.setIfInBounds_toArray, List.set_cons_zero, List.set_cons_succ]
  refine' j_take (i := 4) (v := _) [8, 9, 10, 11] ?hi4 (by kernel_rfl) (by kernel_rfl) (by kernel_rfl) (by kernel_rfl) (by kernel_rfl) (Or.inl ⟨?hw4, ?hy4⟩) ?rest4
  case hi4 => (simp only [List.getElem?_toArray, List.getElem?_cons_succ, List.getElem?_cons_zero]; rfl)
  case hw4 => rfl
  case hy4 => (intro w' hw'; have h0 := (HC.out _ hw').1; go_simp; try with_reducible rfl)
  try simp only [Act.put, List.setIfInBounds_toArray, List.set_cons_zero, List.set_cons_succ]
  refine' j_take (i := 5) (v := _) [6, 7, 8, 9, 10, 11] ?hi5 (by kernel_rfl) (by kernel_rfl) (by kernel_rfl) (by kernel_rfl) (by kernel_rfl) (Or.inl ⟨?hw5, ?hy5⟩) ?rest5
  case hi5 => (simp only [List.getElem?_toArray, List.getElem?_cons_succ, List.getElem?_cons_zero]; rfl)
  case hw5 => rfl
  case hy5 => (intro w' hw'; obtain ⟨_, i0, i1, i2, i3, i4, i5⟩ := HC.out _ hw'; go_simp; try with_reducible rfl)
  try simp only [Act.put, List.setIfInBounds_toArray, List.set_cons_zero, List.set_cons_succ]
  refine' wpAnyJ_step (i := 6) (o := _) (by kernel_rfl) ?ho6 (fun K hK => ?step6)
  case ho6 => (simp only [List.getElem?_toArray, List.getElem?_cons_succ, List.getElem?_cons_zero]; rfl)
  go_simp
  refine (Calls.mono (HCP.out) ?_); rintro e u1 ⟨Ac, cc, rfl, hoc, gg⟩
  have HOC := hide hoc
  have HGG := hide gg
  clear hoc
  refine hK.out _ _ gg (j_switch gg ?_)
  clear hK K gg
  try simp only [Act.put, List.setIfInBounds_toArray, List.set_cons_zero, List.set_cons_succ]
  refine' wpAnyJ_step (i := 7) (o := _) (by kernel_rfl) ?ho7 (fun K hK => ?step7)
  case ho7 => (simp only [List.getElem?_toArray, List.getElem?_cons_succ, List.getElem?_cons_zero]; rfl)
  go_simp
  have ha := below_alloc (Below.refl u1.heap.size u1) (.cells #[.int .i64 x.k, .int .i64 x.f, .int .i64 x.t, .int .u64 x.id, .int .u64 x.n, .slice Ac x.L.length cc] 28)
  have HN := hide (RowAt.new_one (cells := Mg.cells) (sz := 6) (y := ⟨x.k, x.f, x.t, x.id, x.n, Ac, cc, x.L⟩) (heap_alloc_new u1 (.cells #[.int .i64 x.k, .int .i64 x.f, .int .i64 x.t, .int .u64 x.id, .int .u64 x.n, .slice Ac x.L.length cc] 28)))
  have HGA : Hid (Below w3.heap.size w3 (u1.alloc (.cells #[.int .i64 x.k, .int .i64 x.f, .int .i64 x.t, .int .u64 x.id, .int .u64 x.n, .slice Ac x.L.length cc] 28))) := hide (below_step (((Below.refl _ w3).drew).trans HGG.out) ha)
  have HOC := hide (Ow.below HOC.out ha)
  refine hK.out _ _ ha (j_switch ha ?_)
  clear hK K ha
  try simp only [Act.put, List.setIfInBounds_toArray, List.set_cons_zero, List.set_cons_succ]
  refine' wpAnyJ_last (i := 8) (o := _) (by kernel_rfl) ?ho8 (by kernel_rfl) (fun K hK => ?step8)
  case ho8 => (simp only [List.getElem?_toArray, List.getElem?_cons_succ, List.getElem?_cons_zero]; rfl)
  have hua := HGA.out.size
  refine step_app_msg rfl (.tmp 16) (.tmp 19) rfl rfl (b + 1) (.slice A M.length c) M rfl (OwnL.below HOW.out HGA.out) (some ⟨u1.heap.size, 0, none⟩) 1 1 [⟨x.k, x.f, x.t, x.id, x.n, Ac, cc, x.L⟩] rfl rfl HN.out hk6 (Nat.le_trans hbl2 hua) ?_
  intro v8 w8 ho8 hg8 hm8
  obtain ⟨A8, c8, rfl, hr8, _, hc8, hcm8⟩ := OwnL.row Mg.cells_len ho8
  have hbx8 := (hg8.block b (Nat.lt_of_lt_of_le hbl2 hua) (fun e => HRO.out e.symm)).trans ((HGA.out.block b hbl2).trans HBX.out)
  obtain ⟨bl8, ⟨d0, d1, d2, d3⟩, dz⟩ := nw_box hbx8
  have HBX8 := hide hbx8
  have HO8 := hide ho8
  have HG8 := hide hg8
  have HM8 := hide hm8
  have dz1 := dz 1
  have hl8 : (M ++ [(⟨x.k, x.f, x.t, x.id, x.n, Ac, cc, x.L⟩ : Mg)]).length = M.length + 1 := by simp
  rw [hl8] at HO8 HM8 hc8 ⊢
  clear hbx8 ho8 hg8 hm8 hr8 dz hua hl8
  refine hK.out _ _ ?_
  clear hK K
  try simp only [Act.put, List.setIfInBounds_toArray, List.set_cons_zero, List.set_cons_succ]
  refine' wpAnyJ_last (i := 9) (o := _) (by kernel_rfl) ?ho9 (by kernel_rfl) (fun K hK => ?step9)
  case ho9 => (simp only [List.getElem?_toArray, List.getElem?_cons_succ, List.getElem?_cons_zero]; rfl)
  go_simp
  refine hK.out _ _ ?_
  clear hK K
  try simp only [Act.put, List.setIfInBounds_toArray, List.set_cons_zero, List.set_cons_succ]
  refine' wpAnyJ_last (i := 10) (o := _) (by kernel_rfl) ?ho10 (by kernel_rfl) (fun K hK => ?step10)
  case ho10 => (simp only [List.getElem?_toArray, List.getElem?_cons_succ, List.getElem?_cons_zero]; rfl)
  go_simp
  refine hK.out _ _ ?_
  clear hK K
  try simp only [Act.put, List.setIfInBounds_toArray, List.set_cons_zero, List.set_cons_succ]
  refine' wpAnyJ_last (i := 11) (o := _) (by kernel_rfl) ?ho11 (by kernel_rfl) (fun K hK => ?step11)
  case ho11 => (simp only [List.getElem?_toArray, List.getElem?_cons_succ, List.getElem?_cons_zero]; rfl)
  go_simp
  refine hK.out _ _ ?_
  clear hK K
  try simp only [Act.put, List.setIfInBounds_toArray, List.set_cons_zero, List.set_cons_succ]
  refine wpAnyJ_done (by kernel_rfl) ?_ _
  refine NoPanic.normal ?_
  obtain ⟨uA, huA⟩ : ∃ uA, u1.alloc (.cells #[.int .i64 x.k, .int .i64 x.f, .int .i64 x.t, .int .u64 x.id, .int .u64 x.n, .slice Ac x.L.length cc] 28) = uA := ⟨_, rfl⟩
  rw [huA] at HGA HOC HG8 HM8
  clear huA HN HGG HCP
  have hvr : ∀ q, (Value.slice A M.length c).ownBlock = some q → b + 1 ≤ q ∧ q < w3.heap.size := fun q hq => OwnL.lt HOW.out q hq
  have hob8 : (Value.slice A8 (M.length + 1) c8).ownBlock ≠ some b := fun e => by have := (OwnL.lt HO8.out _ e).1; omega
  have hst8 : Sets (fun c => c = b) w8 (w8.setCell ⟨b, 1, none⟩ (.slice A8 (M.length + 1) c8)) := (Sets.refl (S := fun c => c = b) w8).set (g := b) (fun _ => rfl) 1 _
  have hgz := HGA.out.size
  have hgr8 := Sets.grown HG8.out
  obtain ⟨Ax, cx, ex, hrx, hlx, hcx1, hcx2⟩ := OwnL.row It.cells_len HOC.out
  have ex1 : Ac = Ax ∧ cc = cx := by injection ex with e1 e2 e3; exact ⟨e1, e3⟩
  obtain ⟨rfl, rfl⟩ := ex1
  have hfv : NetV Fr (w8.setCell ⟨b, 1, none⟩ (.slice A8 (M.length + 1) c8)) b (.slice A8 (M.length + 1) c8) m (M ++ [⟨x.k, x.f, x.t, x.id, x.n, Ac, cc, x.L⟩]) l (s + 1) := by
    refine ⟨nw_put1 _ HBX8.out, OwnL.setFar HO8.out hob8 _, fun y hy => ?_, fun y hy a ha hn => ?_⟩
    rotate_left
    · rcases List.mem_append.1 hy with h | h
      · exact HVV.out.pd y h a ha hn
      · obtain rfl := List.mem_singleton.1 h
        have h1 := hlx a.block a.off a.spot (by rw [← ha])
        exact hFr _ (by have := HS2.out.size; omega)
    have key : y.rd uA ∧ ∀ a, y.A = some a → y.L ≠ [] → b < a.block ∧ (Value.slice A M.length c).ownBlock ≠ some a.block ∧ a.block < uA.heap.size := by
      rcases List.mem_append.1 hy with h | h
      · have h0 := HVV.out.rd y h
        exact ⟨h0.1.below HGA.out, fun a ha hn => ⟨(h0.2 a ha hn).1, (h0.2 a ha hn).2, Nat.lt_of_lt_of_le (h0.1.lt a ha hn) hgz⟩⟩
      · obtain rfl := List.mem_singleton.1 h
        refine ⟨⟨hrx, hcx1, hcx2⟩, fun a ha hn => ?_⟩
        have h1 := hlx a.block a.off a.spot (by rw [← ha])
        exact ⟨by omega, fun e => by have := hvr _ e; omega, h1.2⟩
    refine ⟨(key.1.sets hgr8 (fun a ha hn e => (key.2 a ha hn).2.1 e)).sets hst8 (fun a ha hn e => by have := (key.2 a ha hn).1; omega), fun a ha hn => ⟨(key.2 a ha hn).1, fun e => ?_⟩⟩
    rcases HM8.out with h | h
    · exact (key.2 a ha hn).2.1 (by rw [← h]; exact e)
    · rw [h] at e
      have e2 := Option.some.inj e
      have := (key.2 a ha hn).2.2
      omega
  have hxm : mokB x.bare = true := by rw [← mokB_same (bare_same x)]; exact HK.out
  have HWF : Hid (NetW Fr (w8.setCell ⟨b, 1, none⟩ (.slice A8 (M.length + 1) c8)) b (Value.slice A8 (M.length + 1) c8).ownBlock m (C ++ [x.bare]) l (s + 1)) := hide ⟨⟨_, _, hfv, rfl, by rw [List.map_append, HMC.out]; rfl⟩, fun c hc => by
    rcases List.mem_append.1 hc with h | h
    · exact H.out.ok c h
    · obtain rfl := List.mem_singleton.1 h; exact hxm⟩
  have HSF : Hid (Sets (NBlk b rb) w (w8.setCell ⟨b, 1, none⟩ (.slice A8 (M.length + 1) c8))) := hide (((HS2.out.trans (Sets.of (S := fun _ => False) HGA.out) (fun _ _ h => h.elim)).trans hgr8 (fun q _ e => .inr (by rw [← HRB.out]; exact e))).trans hst8 (fun _ _ e => .inl e))
  have HMF : Hid (MovedB w rb (Value.slice A8 (M.length + 1) c8).ownBlock) := hide (by
    rcases HM8.out with h | h
    · exact .inl (by rw [h, HRB.out])
    · exact .inr ⟨_, by have := HGG0.out; omega, h⟩)
  have hbf := nw_box hfv.box
  obtain ⟨wf, hwf⟩ : ∃ wf, w8.setCell ⟨b, 1, none⟩ (.slice A8 (M.length + 1) c8) = wf := ⟨_, rfl⟩
  rw [hwf] at HWF HSF hbf
  obtain ⟨blf, ⟨f0, f1, f2, f3⟩, ff⟩ := hbf
  have HWFE := hide hwf
  rw [HLEN.out] at f1 HMF HWF
  clear hfv hst8 hgr8 hvr hob8 hrx hlx ex hxm hwf d0 d1 d2 d3 dz1 HO8 HG8 HM8 HBX8 HOW HVV HBX HC HRO ff f2 f3
  go_upto_region 5 with fail
  try rw [HWFE.out]
  clear HWFE
  obtain ⟨n, hn⟩ : ∃ n, C.length = n := ⟨_, rfl⟩
  rw [hn] at f1
  have hr : Below wf.heap.size wf wf := Below.refl _ _
  have HR := hide hr
  by_cases hmn : m < n + 1
  · have hmI : (m : Int) < (n : Int) + 1 := by omega
    have hmD : decide ((m : Int) < (n : Int) + 1) = true := decide_eq_true hmI
    have HV : Hid (sendC m C x.bare = (C ++ [x.bare]).drop 1 ∧ sendL m C = 1) := hide (by unfold sendC sendL; rw [hn, if_pos hmn, if_pos hmn]; exact ⟨rfl, rfl⟩)
    go_quiet (fail)
    have hW2 := HWF.out.below (below_drewN HR.out nq)
    have HD := hide (drop_hit hW2 0 (by simp) hl)
    have HS9 := hide (HSF.out.trans (Sets.of (S := NBlk b rb) (below_drewN HR.out nq)) (fun _ _ h => h))
    clear hW2
    go_wp2_with fail
    refine (Calls.mono HD.out ?_); rintro e w10 ⟨rb', rfl, hN, hS, hM⟩
    have HN10 := hide hN
    have HS10 := hide hS
    have HM10 := hide hM
    clear hN hS hM HD
    go_wp2_with fail
    go_ret
    refine ⟨rb', rfl, ?_, ?_, ?_⟩
    · rw [HV.out.1, HV.out.2]
      have := HN10.out
      rw [show (C ++ [x.bare]).eraseIdx 0 = (C ++ [x.bare]).drop 1 by cases C <;> rfl] at this
      exact this
    · refine HS9.out.trans HS10.out (fun q hq hs => ?_)
      rcases hs with hs | hs
      · exact .inl hs
      · rcases HMF.out with h | ⟨g', h1, h2⟩
        · exact .inr (by rw [← h]; exact hs)
        · rw [hs] at h2
          have := Option.some.inj h2
          omega
    · rcases HM10.out with h | ⟨g', h1, h2⟩
      · rw [h]; exact HMF.out
      · exact .inr ⟨g', Nat.le_trans HS9.out.size h1, h2⟩
  · have hmI : ¬ (m : Int) < (n : Int) + 1 := by omega
    have hmD : decide ((m : Int) < (n : Int) + 1) = false := decide_eq_false hmI
    have HV : Hid (sendC m C x.bare = C ++ [x.bare] ∧ sendL m C = 0) := hide (by unfold sendC sendL; rw [hn, if_neg hmn, if_neg hmn]; exact ⟨rfl, rfl⟩)
    go_quiet (fail)
    go_wp2_with fail
    go_ret
    refine ⟨rfl, _, ?_, HSF.out.trans (Sets.of (S := NBlk b rb) (below_drewN HR.out nq)) (fun _ _ h => h), HMF.out⟩
    rw [HV.out.1, HV.out.2, Int.add_zero]
    exact HWF.out.below (below_drewN HR.out nq)
end Go.Proofs.Ytihhepojhoaacaa
