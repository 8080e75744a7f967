/- clepsydraref26.Call: Sends, all, end of a round: contracts. Conditions: the call as it lies. -/
import Derived.Test.YtikecafblampeaaRcT
namespace Go.Proofs.Ytikecafblampeaa
set_option linter.unusedVariables false
set_option linter.unusedSimpArgs false
open Go.ChangeShapes Go.WideShapes Go.ChangeAt Go.RowKit
/-- What a call sends. -/
def sendK (K : Cs) (each : Bool) : List Mg := if K.dn = true then [] else toK K each K.n
def SentAt (base : Nat) (w : World) (M : List Mg) (e : Ending) (w' : World) : Prop := ∃ A c N, e = .returned (.slice A N.length c) ∧ Stay base w' A N ∧ N.map Mg.bare = M ∧ Below w.heap.size w w'
set_option maxRecDepth 100000 in
set_option maxHeartbeats 1600000 in
theorem rcto_any {w0 w : World} {base p cb : Nat} {K : Cs} (h : CallO w0 w base p cb K) (hr : K.rd = true) (hn : K.n ≤ 7) (each : Bool) :
    Calls Try.prog 43 #[.pointer (some ⟨p, 0, none⟩), .bool each] w (SentAt base w (sendK K each)) := by
  cases hd : K.dn with
  | false =>
    refine Calls.mono (rcto_go h hr hd hn each) ?_
    rintro e w' ⟨A, c, N, h1, h2, h4, h5⟩
    exact ⟨A, c, N, h1, h2, by unfold sendK; rw [hd]; exact h4, h5⟩
  | true =>
    obtain ⟨Ai, ci, _, hcl⟩ := h.cells
    have c14 := (hcl w (Below.refl _ _)).c14
    rw [hd] at c14
    have HS : Hid (sendK K each = []) := hide (by unfold sendK; rw [hd]; rfl)
    clear hcl h hd hr hn
    go_enter Try.func43, Try.ntmps43
    go_wp2_with fail
    go_ret
    exact ⟨none, 0, [], rfl, stay_nil _ _, HS.out.symm, Below.refl _ _⟩
set_option maxRecDepth 100000 in
set_option maxHeartbeats 1600000 in
theorem rcsends_any {w0 w : World} {base p cb : Nat} {K : Cs} (h : CallO w0 w base p cb K) (hr : K.rd = true) (hn : K.n ≤ 7) :
    Calls Try.prog 26 #[.pointer (some ⟨p, 0, none⟩)] w (SentAt base w (sendK K true)) := by
  have HT := hide (rcto_any h hr hn true)
  clear h hr hn
  go_enter Try.func26, Try.ntmps26
  go_wp2_with fail
  refine (Calls.mono HT.out ?_); rintro e w1 ⟨A, c, N, rfl, h1, h3, h4⟩
  have HX := hide (And.intro h1 (And.intro h3 h4))
  clear h1 h3 h4 HT
  go_wp2_with fail
  go_ret
  exact ⟨A, c, N, rfl, HX.out.1, HX.out.2.1, HX.out.2.2⟩
set_option maxRecDepth 100000 in
set_option maxHeartbeats 1600000 in
theorem rcall_any {w0 w : World} {base p cb : Nat} {K : Cs} (h : CallO w0 w base p cb K) (hn : K.n ≤ 7) :
    Calls Try.prog 40 #[.pointer (some ⟨p, 0, none⟩)] w fun e w' => e = .returned (.int .i64 (cntC K.C K.n : Nat)) ∧ w' = w := by
  obtain ⟨Ai, ci, _, hcl⟩ := h.cells
  obtain ⟨n, hnn⟩ : ∃ n, K.n = n := ⟨_, rfl⟩
  obtain ⟨c0, c1, c2, c3, c4, c5, c6, c7, c8, c9, c10, c11, c13, c14, cc⟩ := hcl w (Below.refl _ _)
  have HCC := hide cc
  have HNN := hide hnn
  rw [hnn] at c1 c10 hn ⊢
  clear hcl h c0 c2 c3 c4 c5 c6 c7 c8 c9 c11 c13 c14 cc hnn
  go_enter Try.func40, Try.ntmps40
  go_wp2_with fail
  go_loopw [3, 4] (fun v i wr => ∃ k : Nat, i = .int .i64 k ∧ k ≤ n ∧ v = .int .i64 (cntC K.C k : Nat) ∧ w = wr) (fun _ i _ => 8 - (intOf i).toNat)
  case atStart => exact ⟨0, rfl, by omega, rfl, rfl⟩
  case round =>
    obtain ⟨k, rfl, hk, rfl, rfl⟩ := hrel
    have hle := cntC_le K.C k
    by_cases hkn : k < n
    · have hkI : (k : Int) < (n : Int) := by omega
      have hk0 : (0 : Int) ≤ (k : Int) := by omega
      have hck := HCC.out k (by rw [HNN.out]; exact hkn)
      have HS : Hid (cntC K.C (k + 1) = cntC K.C k + (if K.C k = true then 1 else 0)) := hide rfl
      generalize cntC K.C k = q at *
      cases hb : K.C k with
      | true =>
        rw [hb] at hck HS
        clear hb
        go_wp2_with fail
        go_roundw
        case rel => exact ⟨k + 1, by go_num, by omega, by rw [HS.out]; go_num, trivial⟩
        case measure => (simp [intOf] <;> omega)
      | false =>
        rw [hb] at hck HS
        clear hb
        go_wp2_with fail
        go_roundw
        case rel => exact ⟨k + 1, by go_num, by omega, by rw [HS.out]; rfl, trivial⟩
        case measure => (simp [intOf] <;> omega)
    · obtain rfl : n = k := by omega
      have hkI : ¬ (n : Int) < (n : Int) := by omega
      go_wp2_with fail
      go_ret
      exact ⟨rfl, rfl⟩
/-- A call that has ended. -/
def endK (K : Cs) (ee vv : Int) : Cs := { K with dn := true, aid := K.id, ack := K.ck, acs := K.cs, act := K.ct, acv := K.cv, ae := ee, av := vv, AL := [] }
set_option maxRecDepth 100000 in
set_option maxHeartbeats 3200000 in
theorem rcend_any {w0 w : World} {base p cb : Nat} {K : Cs} (h : CallO w0 w base p cb K) (hr : K.rd = true) (ee vv : Int) :
    Calls Try.prog 39 #[.pointer (some ⟨p, 0, none⟩), .int .i64 ee, .int .u64 vv] w fun e w' => e = .returned (.tuple #[]) ∧ CallO w0 w' base p cb (endK K ee vv) ∧ Sets (fun g => g = p) w w' := by
  obtain ⟨vi, vg, va, hb, h1, h2, h3⟩ := h.row
  have hb1 := set_of_list (o := 14) hb (.bool true)
  have hs1 : Sets (fun c => c = p) w (w.setCell ⟨p, 14, none⟩ (.bool true)) := (Sets.refl (S := fun c => c = p) w).set (g := p) (fun _ => rfl) 14 _
  have c14 : w.cell? ⟨p, 14, none⟩ = some (.bool K.dn) := (cell_of_list (o := 14) hb).trans rfl
  have f14 : w.frozen? ⟨p, 14, none⟩ = false := by simp [World.frozen?, hb]
  obtain ⟨w1, hw1⟩ : ∃ w1, w.setCell ⟨p, 14, none⟩ (.bool true) = w1 := ⟨_, rfl⟩
  rw [hw1] at hb1 hs1
  have HW1 := hide hw1
  have HB1 := hide hb1
  have HS1 := hide hs1
  have HH := hide h
  have HR := hide (And.intro h1 (And.intro h2 h3))
  clear hb1 hs1 hw1 h hb h1 h2 h3
  go_enter Try.func39, Try.ntmps39
  go_upto_region 1 with fail
  rw [HW1.out]
  obtain ⟨ud, hud⟩ : ∃ ud, w1.drew = ud := ⟨_, rfl⟩
  have HUB : Hid (ud.heap[p]? = some (.cells ((csL K cb vi vg va).set 14 (.bool true)).toArray 60 (0, 0))) := hide (by rw [← hud]; exact HB1.out)
  have HSD : Hid (Sets (fun c => c = p) w ud) := hide (by rw [← hud]; exact HS1.out.drew)
  have HCU : Hid (∀ W : World, Below ud.heap.size ud W → W.cell? ⟨p, 0, none⟩ = some (.int .u64 K.id) ∧ W.cell? ⟨p, 4, none⟩ = some (.int .i64 K.ck) ∧ W.cell? ⟨p, 5, none⟩ = some (.int .i64 K.cs) ∧ W.cell? ⟨p, 6, none⟩ = some (.int .u64 K.ct) ∧ W.cell? ⟨p, 7, none⟩ = some (.int .i64 K.cv)) := hide (fun W hW => by
    have hk := (hW.block p (Array.getElem?_eq_some_iff.1 HUB.out).1).trans HUB.out
    exact ⟨(cell_of_list (o := 0) hk).trans rfl, (cell_of_list (o := 4) hk).trans rfl, (cell_of_list (o := 5) hk).trans rfl, (cell_of_list (o := 6) hk).trans rfl, (cell_of_list (o := 7) hk).trans rfl⟩)
  have HSU : Hid (ud.cell? ⟨p, 15, none⟩ = some (.int .u64 K.aid) ∧ ud.cell? ⟨p, 16, none⟩ = some (.int .i64 K.ack) ∧ ud.cell? ⟨p, 17, none⟩ = some (.int .i64 K.acs) ∧ ud.cell? ⟨p, 18, none⟩ = some (.int .u64 K.act) ∧ ud.cell? ⟨p, 19, none⟩ = some (.int .i64 K.acv) ∧ ud.cell? ⟨p, 20, none⟩ = some (.int .i64 K.ae) ∧ ud.cell? ⟨p, 21, none⟩ = some (.int .u64 K.av) ∧ ud.cell? ⟨p, 22, none⟩ = some va) := hide
    ⟨(cell_of_list (o := 15) HUB.out).trans rfl, (cell_of_list (o := 16) HUB.out).trans rfl, (cell_of_list (o := 17) HUB.out).trans rfl, (cell_of_list (o := 18) HUB.out).trans rfl, (cell_of_list (o := 19) HUB.out).trans rfl, (cell_of_list (o := 20) HUB.out).trans rfl, (cell_of_list (o := 21) HUB.out).trans rfl, (cell_of_list (o := 22) HUB.out).trans rfl⟩
  have HFU : Hid (∀ o, ud.frozen? ⟨p, o, none⟩ = false) := hide (fun o => by simp [World.frozen?, HUB.out])
  clear c14 f14 HW1 HB1 HS1
  refine j_startD [14] hud (by kernel_rfl) ?_
  clear hud
  refine' j_take (i := 0) (v := _) [12, 13, 14] ?hi0 (by kernel_rfl) (by kernel_rfl) (by kernel_rfl) (by kernel_rfl) (by kernel_rfl) (Or.inl ⟨?hw0, ?hy0⟩) ?rest0
  case hi0 => (simp only [List.getElem?_toArray, List.getElem?_cons_succ, List.getElem?_cons_zero]; rfl)
  case hw0 => rfl
  case hy0 => (intro w' hw'; go_simp; try with_reducible rfl)
  try simp only [Act.put, List.setIfInBounds_toArray, List.set_cons_zero, List.set_cons_succ]
  refine' j_take (i := 1) (v := _) [2, 3, 4, 11, 12, 13, 14] ?hi1 (by kernel_rfl) (by kernel_rfl) (by kernel_rfl) (by kernel_rfl) (by kernel_rfl) (Or.inl ⟨?hw1, ?hy1⟩) ?rest1
  case hi1 => (simp only [List.getElem?_toArray, List.getElem?_cons_succ, List.getElem?_cons_zero]; rfl)
  case hw1 => rfl
  case hy1 => (intro w' hw'; go_simp; try with_reducible rfl)
  try simp only [Act.put, List.setIfInBounds_toArray, List.set_cons_zero, List.set_cons_succ]
  refine' j_take (i := 2) (v := _) [3, 4, 11, 12, 13, 14] ?hi2 (by kernel_rfl) (by kernel_rfl) (by kernel_rfl) (by kernel_rfl) (by kernel_rfl) (Or.inl ⟨?hw2, ?hy2⟩) ?rest2
  case hi2 => (simp only [List.getElem?_toArray, List.getElem?_cons_succ, List.getElem?_cons_zero]; rfl)
  case hw2 => rfl
  case hy2 => (intro w' hw'; go_simp; try with_reducible rfl)
  try simp only [Act.put, List.setIfInBounds_toArray, List.set_cons_zero, List.set_cons_succ]
  refine' j_take (i := 3) (v := _) [4, 11, 12, 13, 14] ?hi3 (by kernel_rfl) (by kernel_rfl) (by kernel_rfl) (by kernel_rfl) (by kernel_rfl) (Or.inl ⟨?hw3, ?hy3⟩) ?rest3
  case hi3 => (simp only [List.getElem?_toArray, List.getElem?_cons_succ, List.getElem?_cons_zero]; rfl)
  case hw3 => rfl
  case hy3 => (intro w' hw'; go_simp; try with_reducible rfl)
  try simp only [Act.put, List.setIfInBounds_toArray, List.set_cons_zero, List.set_cons_succ]
  refine' j_take (i := 4) (v := _) [11, 12, 13, 14] ?hi4 (by kernel_rfl) (by kernel_rfl) (by kernel_rfl) (by kernel_rfl) (by kernel_rfl) (Or.inl ⟨?hw4, ?hy4⟩) ?rest4
  case hi4 => (simp only [List.getElem?_toArray, List.getElem?_cons_succ, List.getElem?_cons_zero]; rfl)
  case hw4 => rfl
  case hy4 => (intro w' hw'; obtain ⟨j0, j1, j2, j3, j4⟩ := HCU.out _ hw'; go_simp; try with_reducible rfl)
  try simp only [Act.put, List.setIfInBounds_toArray, List.set_cons_zero, List.set_cons_succ]
  refine' j_take (i := 5) (v := _) [6, 7, 8, 11, 12, 13, 14] ?hi5 (by kernel_rfl) (by kernel_rfl) (by kernel_rfl) (by kernel_rfl) (by kernel_rfl) (Or.inl ⟨?hw5, ?hy5⟩) ?rest5
  case hi5 => (simp only [List.getElem?_toArray, List.getElem?_cons_succ, List.getElem?_cons_zero]; rfl)
  case hw5 => rfl
  case hy5 => (intro w' hw'; go_simp; try with_reducible rfl)
  try simp only [Act.put, List.setIfInBounds_toArray, List.set_cons_zero, List.set_cons_succ]
  refine' j_take (i := 6) (v := _) [7, 8, 11, 12, 13, 14] ?hi6 (by kernel_rfl) (by kernel_rfl) (by kernel_rfl) (by kernel_rfl) (by kernel_rfl) (Or.inl ⟨?hw6, ?hy6⟩) ?rest6
  case hi6 => (simp only [List.getElem?_toArray, List.getElem?_cons_succ, List.getElem?_cons_zero]; rfl)
  case hw6 => rfl
  case hy6 => (intro w' hw'; go_simp; try with_reducible rfl)
  try simp only [Act.put, List.setIfInBounds_toArray, List.set_cons_zero, List.set_cons_succ]
  refine' j_take (i := 7) (v := _) [8, 11, 12, 13, 14] ?hi7 (by kernel_rfl) (by kernel_rfl) (by kernel_rfl) (by kernel_rfl) (by kernel_rfl) (Or.inl ⟨?hw7, ?hy7⟩) ?rest7
  case hi7 => (simp only [List.getElem?_toArray, List.getElem?_cons_succ, List.getElem?_cons_zero]; rfl)
  case hw7 => rfl
  case hy7 => (intro w' hw'; go_simp; try with_reducible rfl)
  try simp only [Act.put, List.setIfInBounds_toArray, List.set_cons_zero, List.set_cons_succ]
  refine' j_take (i := 8) (v := _) [11, 12, 13, 14] ?hi8 (by kernel_rfl) (by kernel_rfl) (by kernel_rfl) (by kernel_rfl) (by kernel_rfl) (Or.inl ⟨?hw8, ?hy8⟩) ?rest8
  case hi8 => (simp only [List.getElem?_toArray, List.getElem?_cons_succ, List.getElem?_cons_zero]; rfl)
  case hw8 => rfl
  case hy8 => (intro w' hw'; obtain ⟨j0, j1, j2, j3, j4⟩ := HCU.out _ hw'; go_simp; try with_reducible rfl)
  try simp only [Act.put, List.setIfInBounds_toArray, List.set_cons_zero, List.set_cons_succ]
  refine' j_take (i := 9) (v := _) [11, 12, 13, 14] ?hi9 (by kernel_rfl) (by kernel_rfl) (by kernel_rfl) (by kernel_rfl) (by kernel_rfl) (Or.inl ⟨?hw9, ?hy9⟩) ?rest9
  case hi9 => (simp only [List.getElem?_toArray, List.getElem?_cons_succ, List.getElem?_cons_zero]; rfl)
  case hw9 => rfl
  case hy9 => (intro w' hw'; go_simp; try with_reducible rfl)
  try simp only [Act.put, List.setIfInBounds_toArray, List.set_cons_zero, List.set_cons_succ]
  refine' j_take (i := 10) (v := _) [11, 12, 13, 14] ?hi10 (by kernel_rfl) (by kernel_rfl) (by kernel_rfl) (by kernel_rfl) (by kernel_rfl) (Or.inl ⟨?hw10, ?hy10⟩) ?rest10
  case hi10 => (simp only [List.getElem?_toArray, List.getElem?_cons_succ, List.getElem?_cons_zero]; rfl)
  case hw10 => rfl
  case hy10 => (intro w' hw'; go_simp; try with_reducible rfl)
  try simp only [Act.put, List.setIfInBounds_toArray, List.set_cons_zero, List.set_cons_succ]
  refine' j_take (i := 11) (v := _) [12, 13, 14] ?hi11 (by kernel_rfl) (by kernel_rfl) (by kernel_rfl) (by kernel_rfl) (by kernel_rfl) (Or.inl ⟨?hw11, ?hy11⟩) ?rest11
  case hi11 => (simp only [List.getElem?_toArray, List.getElem?_cons_succ, List.getElem?_cons_zero]; rfl)
  case hw11 => rfl
  case hy11 => (intro w' hw'; go_simp; try with_reducible rfl)
  try simp only [Act.put, List.setIfInBounds_toArray, List.set_cons_zero, List.set_cons_succ]
  refine' j_take (i := 12) (v := _) [13, 14] ?hi12 (by kernel_rfl) (by kernel_rfl) (by kernel_rfl) (by kernel_rfl) (by kernel_rfl) (Or.inl ⟨?hw12, ?hy12⟩) ?rest12
  case hi12 => (simp only [List.getElem?_toArray, List.getElem?_cons_succ, List.getElem?_cons_zero]; rfl)
  case hw12 => rfl
  case hy12 => (intro w' hw'; go_simp; try with_reducible rfl)
  try simp only [Act.put, List.setIfInBounds_toArray, List.set_cons_zero, List.set_cons_succ]
  refine' j_take (i := 13) (v := _) [14] ?hi13 (by kernel_rfl) (by kernel_rfl) (by kernel_rfl) (by kernel_rfl) (by kernel_rfl) (Or.inl ⟨?hw13, ?hy13⟩) ?rest13
  case hi13 => (simp only [List.getElem?_toArray, List.getElem?_cons_succ, List.getElem?_cons_zero]; rfl)
  case hw13 => rfl
  case hy13 => (intro w' hw'; go_simp; try with_reducible rfl)
  try simp only [Act.put, List.setIfInBounds_toArray, List.set_cons_zero, List.set_cons_succ]
  refine' wpAnyJ_last (i := 14) (o := _) (by kernel_rfl) ?ho14 (by kernel_rfl) (fun KK hK => ?step14)
  case ho14 => (simp only [List.getElem?_toArray, List.getElem?_cons_succ, List.getElem?_cons_zero]; rfl)
  obtain ⟨s0, s1, s2, s3, s4, s5, s6, s7⟩ := HSU.out
  have sf := HFU.out
  go_simp
  refine hK.out _ _ ?_
  clear hK KK s0 s1 s2 s3 s4 s5 s6 s7 sf
  try simp only [Act.put, List.setIfInBounds_toArray, List.set_cons_zero, List.set_cons_succ]
  refine wpAnyJ_done (by kernel_rfl) ?_ _
  refine NoPanic.normal ?_
  have hz8 := (set_of_list (o := 22) (set_of_list (o := 21) (set_of_list (o := 20) (set_of_list (o := 19) (set_of_list (o := 18) (set_of_list (o := 17) (set_of_list (o := 16) (set_of_list (o := 15) HUB.out (.int .u64 K.id)) (.int .i64 K.ck)) (.int .i64 K.cs)) (.int .u64 K.ct)) (.int .i64 K.cv)) (.int .i64 ee)) (.int .u64 vv)) (.slice none 0 0))
  have hs8 := (((((((((Sets.refl (S := fun c => c = p) ud).set (g := p) (fun _ => rfl) 15 (.int .u64 K.id)).set (g := p) (fun _ => rfl) 16 (.int .i64 K.ck)).set (g := p) (fun _ => rfl) 17 (.int .i64 K.cs)).set (g := p) (fun _ => rfl) 18 (.int .u64 K.ct)).set (g := p) (fun _ => rfl) 19 (.int .i64 K.cv)).set (g := p) (fun _ => rfl) 20 (.int .i64 ee)).set (g := p) (fun _ => rfl) 21 (.int .u64 vv)).set (g := p) (fun _ => rfl) 22 (.slice none 0 0))
  obtain ⟨u8, hu8⟩ : ∃ u8, ((((((((ud.setCell ⟨p, 15, none⟩ (.int .u64 K.id)).setCell ⟨p, 16, none⟩ (.int .i64 K.ck)).setCell ⟨p, 17, none⟩ (.int .i64 K.cs)).setCell ⟨p, 18, none⟩ (.int .u64 K.ct)).setCell ⟨p, 19, none⟩ (.int .i64 K.cv)).setCell ⟨p, 20, none⟩ (.int .i64 ee)).setCell ⟨p, 21, none⟩ (.int .u64 vv)).setCell ⟨p, 22, none⟩ (.slice none 0 0)) = u8 := ⟨_, rfl⟩
  rw [hu8] at hz8 hs8
  rw [hu8]
  have c3 : u8.cell? ⟨p, 3, none⟩ = some (.bool K.rd) := (cell_of_list (o := 3) hz8).trans rfl
  rw [hr] at c3
  have HZ8 := hide hz8
  have HS8 := hide (HSD.out.trans hs8 (fun _ _ h => h))
  clear hz8 hs8 hu8 HCU HSU HFU HUB HSD
  go_wp2_with fail
  go_end0
  obtain ⟨h1, h2, h3⟩ := HR.out
  have hh := HH.out
  have far : ∀ v, FarV w base p cb v → ∀ g, v.ownBlock = some g → ¬ g = p := fun v hv g hg => (hv g hg).2.2.1
  have h2f : FarV w base p cb vg := by obtain ⟨_, _, _, _, _, _, _, hf⟩ := h2; exact hf
  refine ⟨rfl, ⟨⟨vi, vg, .slice none 0 0, HZ8.out, ⟨sl_sets h1.1 HS8.out (far vi h1.2), h1.2.up HS8.out.size⟩, got_sets h2 HS8.out (far vg h2f), ⟨Sl.nil_ _, fun g hg => by cases hg⟩⟩, (HS8.out.block cb hh.lt.2 (fun e => hh.ne e.symm)).trans hh.cnt, Sets.below hh.low HS8.out (fun c e => by rw [e]; exact Nat.le_trans hh.old hh.op) hh.low.size, hh.old, hh.op, hh.oc, hh.ne⟩, HS8.out⟩
end Go.Proofs.Ytikecafblampeaa
