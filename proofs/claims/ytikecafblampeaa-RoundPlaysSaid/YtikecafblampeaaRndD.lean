/- round.Round: Done; New of what may not be; awake of layer 25: contracts. Conditions: the round as it lies. -/
import Derived.Test.YtikecafblampeaaRndO
namespace Go.Proofs.Ytikecafblampeaa
set_option linter.unusedVariables false
set_option linter.unusedSimpArgs false
open Go.ChangeShapes Go.WideShapes Go.ChangeAt Go.RowKit
theorem j_startS {P : Program} {ops : Array Oper} {Q : Exit → Act → World → Prop} (F : List Nat) {S : World → Prop} {id : Nat} {a : Act} {w : World} (hm : P.follows .mixedOrders = true) (h : wpAnyJ P .any ops (NoPanic Q) F S ops.size (Array.replicate ops.size false) a w.drew) : (Code.region id ops true).wp P Q a w :=
  wp_region_noPanic (wp_region_any hm (wpAny_of_J _ _ _ _ h))
/-- What a round answers. -/
abbrev ansV (R : Rs) : Value := .agg #[.int .u64 R.aid, .int .i64 0, .int .i64 0, .int .u64 0, .int .i64 0, .int .i64 R.ae, .int .u64 R.av, .slice none 0 0]
set_option maxRecDepth 100000 in
set_option maxHeartbeats 3200000 in
theorem rdone_any {w0 w : World} {b : Nat} {R : Rs} (h : RndO w0 w b R) : Calls Try.prog 18 #[.pointer (some ⟨b, 0, none⟩)] w fun e w' => e = .returned (.tuple #[ansV R, .bool (R.ph == 3)]) ∧ Below w.heap.size w w' := by
  have hba := below_alloc (Below.refl w.heap.size w) (.cells #[.int .u64 0, .int .i64 0, .int .i64 0, .int .u64 0, .int .i64 0, .int .i64 0, .int .u64 0, .slice none 0 0] 47)
  have hz1 := heap_alloc_new w (.cells #[.int .u64 0, .int .i64 0, .int .i64 0, .int .u64 0, .int .i64 0, .int .i64 0, .int .u64 0, .slice none 0 0] 47)
  obtain ⟨w1, hw1⟩ : ∃ w1, w.alloc (.cells #[.int .u64 0, .int .i64 0, .int .i64 0, .int .u64 0, .int .i64 0, .int .i64 0, .int .u64 0, .slice none 0 0] 47) = w1 := ⟨_, rfl⟩
  rw [hw1] at hba hz1
  have h1 := h.below hba
  obtain ⟨v, hb, ho⟩ := h1.row
  have hbl := h1.lt
  have HBA := hide hba
  obtain ⟨g2, hg2⟩ : ∃ g2, w.heap.size = g2 := ⟨_, rfl⟩
  rw [hg2] at hz1
  obtain ⟨ud, hud⟩ : ∃ ud, w1.drew = ud := ⟨_, rfl⟩
  have HUD : Hid (Below w1.heap.size w1 ud) := hide (by rw [← hud]; exact (Below.refl _ _).drew)
  have HC : Hid (∀ W : World, Sets (fun c => c = g2) ud W → W.cell? ⟨b, 18, none⟩ = some (.int .u64 R.aid) ∧ W.cell? ⟨b, 19, none⟩ = some (.int .i64 0) ∧ W.cell? ⟨b, 20, none⟩ = some (.int .i64 0) ∧ W.cell? ⟨b, 21, none⟩ = some (.int .u64 0) ∧ W.cell? ⟨b, 22, none⟩ = some (.int .i64 0) ∧ W.cell? ⟨b, 23, none⟩ = some (.int .i64 R.ae) ∧ W.cell? ⟨b, 24, none⟩ = some (.int .u64 R.av) ∧ W.cell? ⟨b, 25, none⟩ = some (.slice none 0 0) ∧ W.cell? ⟨b, 4, none⟩ = some (.int .i64 R.ph)) := hide (fun W hW => by
    have hk := (hW.block b (Nat.lt_of_lt_of_le hbl HUD.out.size) (by have := h.lt; omega)).trans ((HUD.out.block b hbl).trans hb)
    exact ⟨(cell_of_list (o := 18) hk).trans rfl, (cell_of_list (o := 19) hk).trans rfl, (cell_of_list (o := 20) hk).trans rfl, (cell_of_list (o := 21) hk).trans rfl, (cell_of_list (o := 22) hk).trans rfl, (cell_of_list (o := 23) hk).trans rfl, (cell_of_list (o := 24) hk).trans rfl, (cell_of_list (o := 25) hk).trans rfl, (cell_of_list (o := 4) hk).trans rfl⟩)
  have hzd : ud.heap[g2]? = some (.cells [.int .u64 0, .int .i64 0, .int .i64 0, .int .u64 0, .int .i64 0, .int .i64 0, .int .u64 0, .slice none 0 0].toArray 47 (0, 0)) := (HUD.out.block g2 (Array.getElem?_eq_some_iff.1 hz1).1).trans hz1
  have HZU : Hid (ud.cell? ⟨g2, 0, none⟩ = some (.int .u64 0) ∧ ud.cell? ⟨g2, 1, none⟩ = some (.int .i64 0) ∧ ud.cell? ⟨g2, 2, none⟩ = some (.int .i64 0) ∧ ud.cell? ⟨g2, 3, none⟩ = some (.int .u64 0) ∧ ud.cell? ⟨g2, 4, none⟩ = some (.int .i64 0) ∧ ud.cell? ⟨g2, 5, none⟩ = some (.int .i64 0) ∧ ud.cell? ⟨g2, 6, none⟩ = some (.int .u64 0) ∧ ud.cell? ⟨g2, 7, none⟩ = some (.slice none 0 0)) := hide
    ⟨(cell_of_list (o := 0) hzd).trans rfl, (cell_of_list (o := 1) hzd).trans rfl, (cell_of_list (o := 2) hzd).trans rfl, (cell_of_list (o := 3) hzd).trans rfl, (cell_of_list (o := 4) hzd).trans rfl, (cell_of_list (o := 5) hzd).trans rfl, (cell_of_list (o := 6) hzd).trans rfl, (cell_of_list (o := 7) hzd).trans rfl⟩
  have HFZ : Hid (∀ o, ud.frozen? ⟨g2, o, none⟩ = false) := hide (fun o => by simp [World.frozen?, hzd])
  have HZL := hide hzd
  have HW1 := hide hw1
  have HG2 := hide hg2
  have HUW := hide hud
  obtain ⟨dn, hdn⟩ : ∃ dn, (R.ph == 3) = dn := ⟨_, rfl⟩
  rw [hdn]
  clear h h1 hb ho hba hz1 hw1 hg2 hbl hzd hud
  go_enter Try.func18, Try.ntmps18
  go_upto_region 1 with fail
  try rw [HW1.out]
  try rw [HG2.out]
  refine j_startS [] (S := fun W => Sets (fun c => c = g2) ud W) (by kernel_rfl) ?_
  rw [HUW.out]
  have HS : Hid (Sets (fun c => c = g2) ud ud) := hide (Sets.refl _)
  refine' wpAnyJ_take (i := 0) (v := _) [] ?hi0n1 (by kernel_rfl) (by kernel_rfl) (by kernel_rfl) (by kernel_rfl) (by kernel_rfl) (Or.inl ⟨?hw0n1, ?hy0n1⟩) HS.out ?rest0n1
  case hi0n1 => (simp only [List.getElem?_toArray, List.getElem?_cons_succ, List.getElem?_cons_zero]; rfl)
  case hw0n1 => rfl
  case hy0n1 => (intro w' hw'; go_simp; try with_reducible rfl)
  try simp only [Act.put, List.setIfInBounds_toArray, List.set_cons_zero, List.set_cons_succ]
  refine' wpAnyJ_take (i := 1) (v := _) [] ?hi1n2 (by kernel_rfl) (by kernel_rfl) (by kernel_rfl) (by kernel_rfl) (by kernel_rfl) (Or.inl ⟨?hw1n2, ?hy1n2⟩) HS.out ?rest1n2
  case hi1n2 => (simp only [List.getElem?_toArray, List.getElem?_cons_succ, List.getElem?_cons_zero]; rfl)
  case hw1n2 => rfl
  case hy1n2 => (intro w' hw'; go_simp; try with_reducible rfl)
  try simp only [Act.put, List.setIfInBounds_toArray, List.set_cons_zero, List.set_cons_succ]
  refine' wpAnyJ_take (i := 2) (v := _) [] ?hi2n3 (by kernel_rfl) (by kernel_rfl) (by kernel_rfl) (by kernel_rfl) (by kernel_rfl) (Or.inl ⟨?hw2n3, ?hy2n3⟩) HS.out ?rest2n3
  case hi2n3 => (simp only [List.getElem?_toArray, List.getElem?_cons_succ, List.getElem?_cons_zero]; rfl)
  case hw2n3 => rfl
  case hy2n3 => (intro w' hw'; go_simp; try with_reducible rfl)
  try simp only [Act.put, List.setIfInBounds_toArray, List.set_cons_zero, List.set_cons_succ]
  refine' wpAnyJ_take (i := 3) (v := _) [] ?hi3n4 (by kernel_rfl) (by kernel_rfl) (by kernel_rfl) (by kernel_rfl) (by kernel_rfl) (Or.inl ⟨?hw3n4, ?hy3n4⟩) HS.out ?rest3n4
  case hi3n4 => (simp only [List.getElem?_toArray, List.getElem?_cons_succ, List.getElem?_cons_zero]; rfl)
  case hw3n4 => rfl
  case hy3n4 => (intro w' hw'; obtain ⟨j0, j1, j2, j3, j4, j5, j6, j7, j8⟩ := HC.out _ hw'; go_simp; try with_reducible rfl)
  try simp only [Act.put, List.setIfInBounds_toArray, List.set_cons_zero, List.set_cons_succ]
  refine' wpAnyJ_take (i := 4) (v := _) [] ?hi4n5 (by kernel_rfl) (by kernel_rfl) (by kernel_rfl) (by kernel_rfl) (by kernel_rfl) (Or.inl ⟨?hw4n5, ?hy4n5⟩) HS.out ?rest4n5
  case hi4n5 => (simp only [List.getElem?_toArray, List.getElem?_cons_succ, List.getElem?_cons_zero]; rfl)
  case hw4n5 => rfl
  case hy4n5 => (intro w' hw'; go_simp; try with_reducible rfl)
  try simp only [Act.put, List.setIfInBounds_toArray, List.set_cons_zero, List.set_cons_succ]
  refine' wpAnyJ_take (i := 5) (v := _) [] ?hi5n6 (by kernel_rfl) (by kernel_rfl) (by kernel_rfl) (by kernel_rfl) (by kernel_rfl) (Or.inl ⟨?hw5n6, ?hy5n6⟩) HS.out ?rest5n6
  case hi5n6 => (simp only [List.getElem?_toArray, List.getElem?_cons_succ, List.getElem?_cons_zero]; rfl)
  case hw5n6 => rfl
  case hy5n6 => (intro w' hw'; go_simp; try with_reducible rfl)
  try simp only [Act.put, List.setIfInBounds_toArray, List.set_cons_zero, List.set_cons_succ]
  refine' wpAnyJ_take (i := 6) (v := _) [] ?hi6n7 (by kernel_rfl) (by kernel_rfl) (by kernel_rfl) (by kernel_rfl) (by kernel_rfl) (Or.inl ⟨?hw6n7, ?hy6n7⟩) HS.out ?rest6n7
  case hi6n7 => (simp only [List.getElem?_toArray, List.getElem?_cons_succ, List.getElem?_cons_zero]; rfl)
  case hw6n7 => rfl
  case hy6n7 => (intro w' hw'; go_simp; try with_reducible rfl)
  try simp only [Act.put, List.setIfInBounds_toArray, List.set_cons_zero, List.set_cons_succ]
  refine' wpAnyJ_take (i := 7) (v := _) [] ?hi7n8 (by kernel_rfl) (by kernel_rfl) (by kernel_rfl) (by kernel_rfl) (by kernel_rfl) (Or.inl ⟨?hw7n8, ?hy7n8⟩) HS.out ?rest7n8
  case hi7n8 => (simp only [List.getElem?_toArray, List.getElem?_cons_succ, List.getElem?_cons_zero]; rfl)
  case hw7n8 => rfl
  case hy7n8 => (intro w' hw'; obtain ⟨j0, j1, j2, j3, j4, j5, j6, j7, j8⟩ := HC.out _ hw'; go_simp; try with_reducible rfl)
  try simp only [Act.put, List.setIfInBounds_toArray, List.set_cons_zero, List.set_cons_succ]
  refine' wpAnyJ_take (i := 8) (v := _) [] ?hi8n9 (by kernel_rfl) (by kernel_rfl) (by kernel_rfl) (by kernel_rfl) (by kernel_rfl) (Or.inl ⟨?hw8n9, ?hy8n9⟩) HS.out ?rest8n9
  case hi8n9 => (simp only [List.getElem?_toArray, List.getElem?_cons_succ, List.getElem?_cons_zero]; rfl)
  case hw8n9 => rfl
  case hy8n9 => (intro w' hw'; go_simp; try with_reducible rfl)
  try simp only [Act.put, List.setIfInBounds_toArray, List.set_cons_zero, List.set_cons_succ]
  refine' wpAnyJ_step (i := 9) (o := _) (by kernel_rfl) ?ho9n10 (fun K hK => ?step9n10)
  case ho9n10 => (simp only [List.getElem?_toArray, List.getElem?_cons_succ, List.getElem?_cons_zero]; rfl)
  obtain ⟨s0, s1, s2, s3, s4, s5, s6, s7⟩ := HZU.out
  have sf := HFZ.out
  go_simp
  have hs8 : Sets (fun c => c = g2) ud ((((((((ud.setCell ⟨g2, 0, none⟩ (.int .u64 R.aid)).setCell ⟨g2, 1, none⟩ (.int .i64 0)).setCell ⟨g2, 2, none⟩ (.int .i64 0)).setCell ⟨g2, 3, none⟩ (.int .u64 0)).setCell ⟨g2, 4, none⟩ (.int .i64 0)).setCell ⟨g2, 5, none⟩ (.int .i64 R.ae)).setCell ⟨g2, 6, none⟩ (.int .u64 R.av)).setCell ⟨g2, 7, none⟩ (.slice none 0 0)) := (((((((((Sets.refl (S := fun c => c = g2) ud).set (g := g2) (fun _ => rfl) 0 (.int .u64 R.aid)).set (g := g2) (fun _ => rfl) 1 (.int .i64 0)).set (g := g2) (fun _ => rfl) 2 (.int .i64 0)).set (g := g2) (fun _ => rfl) 3 (.int .u64 0)).set (g := g2) (fun _ => rfl) 4 (.int .i64 0)).set (g := g2) (fun _ => rfl) 5 (.int .i64 R.ae)).set (g := g2) (fun _ => rfl) 6 (.int .u64 R.av)).set (g := g2) (fun _ => rfl) 7 (.slice none 0 0))
  have hz8 := (set_of_list (o := 7) (set_of_list (o := 6) (set_of_list (o := 5) (set_of_list (o := 4) (set_of_list (o := 3) (set_of_list (o := 2) (set_of_list (o := 1) (set_of_list (o := 0) HZL.out (.int .u64 R.aid)) (.int .i64 0)) (.int .i64 0)) (.int .u64 0)) (.int .i64 0)) (.int .i64 R.ae)) (.int .u64 R.av)) (.slice none 0 0))
  refine hK.out _ _ hs8 ?_
  clear hK K s0 s1 s2 s3 s4 s5 s6 s7 sf
  obtain ⟨u8, hu8⟩ : ∃ u8, (((((((ud.setCell ⟨g2, 0, none⟩ (.int .u64 R.aid)).setCell ⟨g2, 1, none⟩ (.int .i64 0)).setCell ⟨g2, 2, none⟩ (.int .i64 0)).setCell ⟨g2, 3, none⟩ (.int .u64 0)).setCell ⟨g2, 4, none⟩ (.int .i64 0)).setCell ⟨g2, 5, none⟩ (.int .i64 R.ae)).setCell ⟨g2, 6, none⟩ (.int .u64 R.av)).setCell ⟨g2, 7, none⟩ (.slice none 0 0) = u8 := ⟨_, rfl⟩
  rw [hu8] at hz8 hs8
  rw [hu8]
  have HS := hide hs8
  try simp only [Act.put, List.setIfInBounds_toArray, List.set_cons_zero, List.set_cons_succ]
  refine' wpAnyJ_take (i := 10) (v := _) [] ?hi10n11 (by kernel_rfl) (by kernel_rfl) (by kernel_rfl) (by kernel_rfl) (by kernel_rfl) (Or.inl ⟨?hw10n11, ?hy10n11⟩) HS.out ?rest10n11
  case hi10n11 => (simp only [List.getElem?_toArray, List.getElem?_cons_succ, List.getElem?_cons_zero]; rfl)
  case hw10n11 => rfl
  case hy10n11 => (intro w' hw'; go_simp; try with_reducible rfl)
  try simp only [Act.put, List.setIfInBounds_toArray, List.set_cons_zero, List.set_cons_succ]
  refine wpAnyJ_done (by kernel_rfl) ?_ _
  refine NoPanic.normal ?_
  have R0 : Hid (u8.cell? ⟨g2, 0, none⟩ = some (.int .u64 R.aid)) := hide ((cell_of_list (o := 0) hz8).trans rfl)
  have R1 : Hid (u8.cell? ⟨g2, 1, none⟩ = some (.int .i64 0)) := hide ((cell_of_list (o := 1) hz8).trans rfl)
  have R2 : Hid (u8.cell? ⟨g2, 2, none⟩ = some (.int .i64 0)) := hide ((cell_of_list (o := 2) hz8).trans rfl)
  have R3 : Hid (u8.cell? ⟨g2, 3, none⟩ = some (.int .u64 0)) := hide ((cell_of_list (o := 3) hz8).trans rfl)
  have R4 : Hid (u8.cell? ⟨g2, 4, none⟩ = some (.int .i64 0)) := hide ((cell_of_list (o := 4) hz8).trans rfl)
  have R5 : Hid (u8.cell? ⟨g2, 5, none⟩ = some (.int .i64 R.ae)) := hide ((cell_of_list (o := 5) hz8).trans rfl)
  have R6 : Hid (u8.cell? ⟨g2, 6, none⟩ = some (.int .u64 R.av)) := hide ((cell_of_list (o := 6) hz8).trans rfl)
  have R7 : Hid (u8.cell? ⟨g2, 7, none⟩ = some (.slice none 0 0)) := hide ((cell_of_list (o := 7) hz8).trans rfl)
  have HB8 := hide (Sets.below (below_step HBA.out HUD.out) hs8 (fun c e => by rw [e, ← HG2.out]; exact Nat.le_refl _) (below_step HBA.out HUD.out).size)
  clear hz8 hs8 hu8 HC HZU HFZ HZL HS
  go_wp2_with fail
  refine bodyPost_ret (v := .tuple #[ansV R, .bool dn]) (by simp [ansV, results, Try.results18, go_sem, R0.out, R1.out, R2.out, R3.out, R4.out, R5.out, R6.out, R7.out]) rfl ?_
  exact ⟨rfl, HB8.out⟩
set_option maxRecDepth 100000 in
set_option maxHeartbeats 1600000 in
theorem rnew_bad (n a id f : Int) (w : World) (h : nodesB n a id = false ∨ f < 1 ∨ 281474976710656 < f) :
    Calls Try.prog 8 #[.int .i64 n, .int .i64 a, .int .u64 id, .int .u64 f] w fun e w' => e = .returned (.tuple #[.pointer none, .int .i64 1]) ∧ Below w.heap.size w w' := by
  have HN := hide (nodes_any n a id w)
  cases hb : nodesB n a id with
  | false =>
    rw [hb] at HN
    clear h hb
    go_enter Try.func8, Try.ntmps8
    go_wp2_with fail
    refine (Calls.mono HN.out ?_); rintro e w1 ⟨rfl, hb1⟩
    have HB1 := hide hb1
    clear hb1 HN
    go_wp2_with fail
    refine bodyPost_ret (v := .tuple #[.pointer none, .int .i64 1]) (by simp [results, Try.results8]) rfl ?_
    exact ⟨rfl, HB1.out⟩
  | true =>
    rw [hb] at HN
    have h : f < 1 ∨ 281474976710656 < f := by simpa [hb] using h
    clear hb
    rcases h with h1 | h1
    · go_enter Try.func8, Try.ntmps8
      go_wp2_with fail
      refine (Calls.mono HN.out ?_); rintro e w1 ⟨rfl, hb1⟩
      have HB1 := hide hb1
      clear hb1 HN
      go_wp2_with fail
      refine bodyPost_ret (v := .tuple #[.pointer none, .int .i64 1]) (by simp [results, Try.results8]) rfl ?_
      exact ⟨rfl, HB1.out⟩
    · have h2 : ¬ f < 1 := by omega
      go_enter Try.func8, Try.ntmps8
      go_wp2_with fail
      refine (Calls.mono HN.out ?_); rintro e w1 ⟨rfl, hb1⟩
      have HB1 := hide hb1
      clear hb1 HN
      go_wp2_with fail
      refine bodyPost_ret (v := .tuple #[.pointer none, .int .i64 1]) (by simp [results, Try.results8]) rfl ?_
      exact ⟨rfl, HB1.out⟩
set_option maxRecDepth 100000 in
set_option maxHeartbeats 1600000 in
theorem awake25_any (w : World) : Calls Try.prog 15 #[] w fun e w' => e = .returned (.bool true) ∧ Below w.heap.size w w' := by
  go_enter Try.func15, Try.ntmps15
  go_wp2_with fail
  refine (Calls.mono (rnew_good 3 0 7 90 _ (by decide) (by omega) (by omega)) ?_); rintro e w1 ⟨b, rfl, h1⟩
  have H1 := hide h1
  clear h1
  go_wp2_with fail
  refine (Calls.mono (rnew_bad 3 0 7 0 _ (.inr (.inl (by omega)))) ?_); rintro e w2 ⟨rfl, hb2⟩
  have H2 := hide (H1.out.below hb2)
  clear hb2
  go_wp2_with fail
  refine (Calls.mono (rsends_any H2.out (by decide) (.inl rfl) (by decide)) ?_); rintro e w3 ⟨v, N, rfl, hO, hN, hb3⟩
  obtain ⟨A, c, rfl, hr, _, _⟩ := OwnL.row Mg.cells_len hO.own
  have H3 := hide (H2.out.below hb3)
  have hln : N.length = 3 := by
    have := congrArg List.length hN
    rw [List.length_map] at this
    rw [this]
    decide
  obtain ⟨x0, x1, x2, rfl⟩ : ∃ x0 x1 x2, N = [x0, x1, x2] := by
    match N, hln with
    | [a, b, c], _ => exact ⟨a, b, c, rfl⟩
  have hx : x1.k = 6 ∧ x1.f = 0 ∧ x1.t = 1 ∧ x1.id = 7 ∧ x1.n = 90 ∧ x1.L = [] := by
    have hs : sendR (rs0 3 0 7 90) true = [toM (rs0 3 0 7 90) 0 6, toM (rs0 3 0 7 90) 1 6, toM (rs0 3 0 7 90) 2 6] := rfl
    rw [hs] at hN
    simp only [List.map_cons, List.map_nil, List.cons.injEq] at hN
    have e := hN.2.1
    unfold Mg.bare at e
    injection e with e1 e2 e3 e4 e5 e6 e7 e8
    exact ⟨e1, e2, e3, e4, e5, e8⟩
  obtain ⟨g, off, rfl, hlt, hc⟩ := hr.at_ (k := 1) (by simp)
  obtain ⟨x1k, x1f, x1t, x1id, x1n, x1L⟩ := hx
  have cl : ∀ (j : Nat) (u : Value), (Mg.cells x1)[j]? = some u → w3.cell? ⟨g, off + 1 * 6 + j, none⟩ = some u := fun j u hu => hc 1 (by simp) j u hu
  have m0 : w3.cell? ⟨g, off + 6, none⟩ = some (.int .i64 6) := by rw [← x1k]; exact cl 0 _ rfl
  have m2 : w3.cell? ⟨g, off + 8, none⟩ = some (.int .i64 1) := by rw [← x1t]; exact cl 2 _ rfl
  have m4 : w3.cell? ⟨g, off + 10, none⟩ = some (.int .u64 90) := by rw [← x1n]; exact cl 4 _ rfl
  have HLW := hide H3.out.low
  clear hO hN hb3 hr hln x1k x1f x1t x1id x1n x1L hc cl
  go_wp2_with fail
  refine (Calls.mono (rphase_any H3.out) ?_); rintro e w4 ⟨rfl, rfl⟩
  go_wp2_with fail
  go_ret
  exact ⟨rfl, HLW.out⟩
end Go.Proofs.Ytikecafblampeaa
