/- clepsydraref26.Call: to, Sends of a round: contracts. Conditions: the call as it lies. -/
import Derived.Test.YtikecafblampeaaRc
namespace Go.Proofs.Ytikecafblampeaa
set_option linter.unusedVariables false
set_option linter.unusedSimpArgs false
open Go.ChangeShapes Go.WideShapes Go.ChangeAt Go.RowKit
/-- A round's message. -/
def msgK (K : Cs) (j : Int) : Mg := if K.ph = 1 then ⟨6, K.at_, j, K.id, K.ver, none, 0, []⟩ else ⟨8, K.at_, j, K.id, K.ver, none, 0, K.L⟩
def toK (K : Cs) (each : Bool) (k : Nat) : List Mg := ((List.range k).filter fun j => each || !K.C j).map fun (j : Nat) => msgK K (j : Int)
theorem toK_yes {K : Cs} {each : Bool} {k : Nat} (h : (each || !K.C k) = true) : toK K each (k + 1) = toK K each k ++ [msgK K (k : Int)] := by
  unfold toK
  rw [List.range_succ, List.filter_append, List.map_append]
  simp [h]
theorem toK_no {K : Cs} {each : Bool} {k : Nat} (h : (each || !K.C k) = false) : toK K each (k + 1) = toK K each k := by
  unfold toK
  rw [List.range_succ, List.filter_append, List.map_append]
  simp [h]
theorem toK_len (K : Cs) (each : Bool) (k : Nat) : (toK K each k).length ≤ k := by
  unfold toK
  rw [List.length_map]
  exact Nat.le_trans (List.length_filter_le _ _) (by simp)
/-- What a call's block reads as, from a world on. -/
structure CallC (W : World) (p cb : Nat) (K : Cs) (Ai : Option Addr) (ci : Nat) : Prop where
  c0 : W.cell? ⟨p, 0, none⟩ = some (.int .u64 K.id)
  c1 : W.cell? ⟨p, 1, none⟩ = some (.int .i64 K.n)
  c2 : W.cell? ⟨p, 2, none⟩ = some (.int .i64 K.at_)
  c3 : W.cell? ⟨p, 3, none⟩ = some (.bool K.rd)
  c4 : W.cell? ⟨p, 4, none⟩ = some (.int .i64 K.ck)
  c5 : W.cell? ⟨p, 5, none⟩ = some (.int .i64 K.cs)
  c6 : W.cell? ⟨p, 6, none⟩ = some (.int .u64 K.ct)
  c7 : W.cell? ⟨p, 7, none⟩ = some (.int .i64 K.cv)
  c8 : W.cell? ⟨p, 8, none⟩ = some (.int .u64 K.ver)
  c9 : W.cell? ⟨p, 9, none⟩ = some (.int .i64 K.ph)
  c10 : W.cell? ⟨p, 10, none⟩ = some (.slice (some ⟨cb, 0, none⟩) K.n K.n)
  c11 : W.cell? ⟨p, 11, none⟩ = some (.slice Ai K.L.length ci)
  c13 : W.cell? ⟨p, 13, none⟩ = some (.int .i64 K.tk)
  c14 : W.cell? ⟨p, 14, none⟩ = some (.bool K.dn)
  cc : ∀ j, j < K.n → W.cell? ⟨cb, j, none⟩ = some (.bool (K.C j))
theorem CallO.cells {w0 w : World} {base p cb : Nat} {K : Cs} (h : CallO w0 w base p cb K) : ∃ Ai ci, (ItemsAt w Ai K.L ∧ K.L.length ≤ ci ∧ ci ≤ maxLen) ∧ ∀ W, Below w.heap.size w W → CallC W p cb K Ai ci := by
  obtain ⟨vi, vg, va, hb, ⟨⟨Ai, ci, rfl, h1, h2, h3⟩, _⟩, _⟩ := h.row
  refine ⟨Ai, ci, ⟨h1, h2, h3⟩, fun W hW => ?_⟩
  have hk := (hW.block p h.lt.1).trans hb
  have hc := (hW.block cb h.lt.2).trans h.cnt
  refine ⟨(cell_of_list (o := 0) hk).trans rfl, (cell_of_list (o := 1) hk).trans rfl, (cell_of_list (o := 2) hk).trans rfl, (cell_of_list (o := 3) hk).trans rfl, (cell_of_list (o := 4) hk).trans rfl, (cell_of_list (o := 5) hk).trans rfl, (cell_of_list (o := 6) hk).trans rfl, (cell_of_list (o := 7) hk).trans rfl, (cell_of_list (o := 8) hk).trans rfl, (cell_of_list (o := 9) hk).trans rfl, (cell_of_list (o := 10) hk).trans rfl, (cell_of_list (o := 11) hk).trans rfl, (cell_of_list (o := 13) hk).trans rfl, (cell_of_list (o := 14) hk).trans rfl, fun j hj => ?_⟩
  rw [cell_of_list (o := j) hc]
  unfold cntL
  simp [hj]
theorem CallO.cellsF {w0 w : World} {base p cb : Nat} {K : Cs} (h : CallO w0 w base p cb K) : ∃ Ai ci, (ItemsAt w Ai K.L ∧ K.L.length ≤ ci ∧ ci ≤ maxLen) ∧ FarV w base p cb (.slice Ai K.L.length ci) ∧ ∀ W, Below w.heap.size w W → CallC W p cb K Ai ci := by
  obtain ⟨vi, vg, va, hb, ⟨hs, hf⟩, _⟩ := h.row
  obtain ⟨Ai, ci, hi, hcl⟩ := h.cells
  have h1 := (hcl w (Below.refl _ _)).c11
  have h2 : w.cell? ⟨p, 11, none⟩ = some vi := (cell_of_list (o := 11) hb).trans rfl
  have e : vi = .slice Ai K.L.length ci := by rw [h1] at h2; exact (Option.some.inj h2).symm
  rw [e] at hf
  exact ⟨Ai, ci, hi, hf, hcl⟩
theorem row_sets {α : Type} {cells : α → List Value} {sz : Nat} {S : Nat → Prop} {w w' : World} {A : Option Addr} {L : List α} (h : RowAt cells sz w A L) (k : Sets S w w') (hS : ∀ a, A = some a → ¬ S a.block) : RowAt cells sz w' A L := fun hne => by
  obtain ⟨b, off, rfl, hlt, hc⟩ := h hne
  exact ⟨b, off, rfl, Nat.lt_of_lt_of_le hlt k.size, fun j hj i u hu => (World.cell?_of_block (k.block b hlt (hS _ rfl))).trans (hc j hj i u hu)⟩
/-- Its items lie behind a base. -/
def Mg.far (base : Nat) (x : Mg) : Prop := ∀ a, x.A = some a → base ≤ a.block
/-- Messages that stay as they are whatever is written below a base. -/
def Stay (base : Nat) (w : World) (A : Option Addr) (N : List Mg) : Prop := ∀ w', Sets (fun g => g < base) w w' → RowAt Mg.cells 6 w' A N ∧ ∀ x ∈ N, x.rd w'
theorem stay_nil (base : Nat) (w : World) : Stay base w none [] := fun _ _ => ⟨RowAt.nil_, fun x hx => by cases hx⟩
theorem stay_of {base : Nat} {w : World} {A : Option Addr} {N : List Mg} (hr : RowAt Mg.cells 6 w A N) (hA : ∀ a, A = some a → base ≤ a.block) (hx : ∀ x ∈ N, x.rd w ∧ x.far base) : Stay base w A N := fun w' k =>
  ⟨row_sets hr k (fun a ha h => by have := hA a ha; omega), fun x h => ⟨row_sets (hx x h).1.1 k (fun a ha h' => by have := (hx x h).2 a ha; omega), (hx x h).1.2⟩⟩
theorem Stay.at_ {base : Nat} {w : World} {A : Option Addr} {N : List Mg} (h : Stay base w A N) : RowAt Mg.cells 6 w A N ∧ ∀ x ∈ N, x.rd w := h w (Sets.refl w)
set_option maxRecDepth 100000 in
set_option maxHeartbeats 3200000 in
theorem rcto_go {w0 w : World} {base p cb : Nat} {K : Cs} (h : CallO w0 w base p cb K) (hr : K.rd = true) (hd : K.dn = false) (hn : K.n ≤ 7) (each : Bool) :
    Calls Try.prog 43 #[.pointer (some ⟨p, 0, none⟩), .bool each] w fun e w' => ∃ A c N, e = .returned (.slice A N.length c) ∧ Stay base w' A N ∧ N.map Mg.bare = toK K each K.n ∧ Below w.heap.size w w' := by
  obtain ⟨Ai, ci, hit, hfar, hcl⟩ := h.cellsF
  have HIT := hide hit
  have HFAR := hide hfar
  have HBP := hide h.op
  clear hfar
  have HCL := hide hcl
  have hpl := h.lt
  have HPL := hide hpl
  obtain ⟨n, hnn⟩ : ∃ n, K.n = n := ⟨_, rfl⟩
  have HNN := hide hnn
  rw [hnn] at hn
  obtain ⟨c0, c1, c2, c3, c4, c5, c6, c7, c8, c9, c10, c11, c13, c14, cc⟩ := hcl w (Below.refl _ _)
  rw [hd] at c14
  clear hit hcl h hpl hnn c0 c1 c2 c3 c4 c5 c6 c7 c8 c9 c10 c11 c13 cc
  go_enter Try.func43, Try.ntmps43
  go_wp2_with fail
  go_loopw [5, 6] (fun v i wr => ∃ (k : Nat) (N : List Mg), i = .int .i64 k ∧ k ≤ n ∧ OwnL Mg.cells 6 30 w.heap.size wr v N ∧ (∀ x ∈ N, x.rd w ∧ x.far base) ∧ N.map Mg.bare = toK K each k ∧ Below w.heap.size w wr) (fun _ i _ => 8 - (intOf i).toNat)
  case atStart => exact ⟨0, [], rfl, by omega, OwnL.nil_ _ _ _ _ _, (fun x hx => by cases hx), rfl, Below.refl _ _⟩
  case round =>
    obtain ⟨k, N, rfl, hk, hO, hrd, hN, hb⟩ := hrel
    have HO := hide hO
    have HRD := hide hrd
    have HN := hide hN
    have HB := hide hb
    obtain ⟨c0, c1, c2, c3, c4, c5, c6, c7, c8, c9, c10, c11, c13, c14, cc⟩ := HCL.out wr hb
    rw [HNN.out] at c1 c10
    rw [hr] at c3
    have hNl : N.length ≤ 7 := by
      have h1 := congrArg List.length hN
      rw [List.length_map] at h1
      have := toK_len K each k
      omega
    clear hO hrd hN hb c4 c5 c6 c7 c13 c14
    by_cases hkn : k < n
    · have hkI : (k : Int) < (n : Int) := by omega
      have hk0 : (0 : Int) ≤ (k : Int) := by omega
      have hck := cc k (by rw [HNN.out]; exact hkn)
      have hpr : p < wr.heap.size := Nat.lt_of_lt_of_le HPL.out.1 HB.out.size
      have hcr : cb < wr.heap.size := Nat.lt_of_lt_of_le HPL.out.2 HB.out.size
      clear cc
      go_upto_region 7 with fail
      go_region
      go_upto_block 2 with fail
      obtain ⟨wm, hwm⟩ : ∃ wm, (wr.alloc (.cells #[.int .i64 0, .int .i64 K.at_, .int .i64 k, .int .u64 K.id, .int .u64 0, .slice none 0 0] 30)).drew = wm := ⟨_, rfl⟩
      have hbm : Below wr.heap.size wr wm := by rw [← hwm]; exact (below_alloc (Below.refl _ _) _).drew
      have hzm : wm.heap[wr.heap.size]? = some (.cells #[.int .i64 0, .int .i64 K.at_, .int .i64 k, .int .u64 K.id, .int .u64 0, .slice none 0 0] 30 (0, 0)) := by rw [← hwm]; exact heap_alloc_new wr _
      rw [hwm]
      obtain ⟨g, hg⟩ : ∃ g, wr.heap.size = g := ⟨_, rfl⟩
      rw [hg] at hzm ⊢
      have HBM := hide hbm
      have HZM := hide hzm
      have HGE := hide hg
      have HBW := hide (below_step HB.out hbm)
      clear c0 c1 c2 c3 c8 c9 c10 c11 c14 hck hpr hcr hwm hbm hzm hg
      obtain ⟨c0, c1, c2, c3, c4, c5, c6, c7, c8, c9, c10, c11, c13, c14, cc⟩ := HCL.out wm HBW.out
      have hck := cc k (by rw [HNN.out]; exact hkn)
      rw [HNN.out] at c1 c10
      rw [hr] at c3
      clear cc c4 c5 c6 c7 c13 c0 c1 c2 c14
      have hpr : p < wm.heap.size := Nat.lt_of_lt_of_le HPL.out.1 HBW.out.size
      have hgr : g < wm.heap.size := (Array.getElem?_eq_some_iff.1 HZM.out).1
      have hne1 : ¬ p = g := by have h1 := HPL.out.1; have h2 := HB.out.size; have h3 := HGE.out; omega
      have hne2 : ¬ g = p := fun e => hne1 e.symm
      cases hc : (each || !K.C k) with
      | false =>
        have HS : Hid (toK K each (k + 1) = toK K each k) := hide (toK_no hc)
        obtain ⟨rfl, hc2⟩ : each = false ∧ K.C k = true := by simpa using hc
        rw [hc2] at hck
        clear hc hc2
        go_wp2_with fail
        go_roundw
        case rel => exact ⟨k + 1, N, by go_num, by omega, OwnL.below HO.out HBM.out, HRD.out, by rw [HS.out]; exact HN.out, HBW.out⟩
        case measure => (simp [intOf] <;> omega)
      | true =>
        have HSY : Hid (toK K each (k + 1) = toK K each k ++ [msgK K (k : Int)]) := hide (toK_yes hc)
        have hcase : (each = false ∧ K.C k = false) ∨ (each = true ∧ K.C k = false) ∨ (each = true ∧ K.C k = true) := by
          cases each
          · exact .inl ⟨rfl, by simpa using hc⟩
          · cases K.C k
            · exact .inr (.inl ⟨rfl, rfl⟩)
            · exact .inr (.inr ⟨rfl, rfl⟩)
        clear hc
        go_cut [7] (fun v W => v = .pointer (some ⟨g, 0, none⟩) ∧ ∃ x : Mg, x.bare = msgK K (k : Int) ∧ (x.rd w ∧ x.far base) ∧ W.heap[g]? = some (.cells x.cells.toArray 30 (0, 0)) ∧ Below wr.heap.size wr W)
        case first =>
          have hzc := six_cells HZM.out
          obtain ⟨z0, z1, z2, z3, z4, z5⟩ := hzc
          have hf0 : wm.frozen? ⟨g, 0, none⟩ = false := by simp [World.frozen?, HZM.out]
          have hf4 : wm.frozen? ⟨g, 4, none⟩ = false := by simp [World.frozen?, HZM.out]
          have hf5 : wm.frozen? ⟨g, 5, none⟩ = false := by simp [World.frozen?, HZM.out]
          by_cases hph : K.ph = 1
          · have hMK : msgK K (k : Int) = ⟨6, K.at_, (k : Int), K.id, K.ver, none, 0, []⟩ := by unfold msgK; rw [if_pos hph]
            have HMK := hide hMK
            rw [hph] at c9
            clear hMK hph c11
            rcases hcase with ⟨rfl, hc2⟩ | ⟨rfl, hc2⟩ | ⟨rfl, hc2⟩
            · rw [hc2] at hck
              clear hc2
              go_upto_region 12 with fail
              obtain ⟨ud, hud⟩ : ∃ ud, wm.drew = ud := ⟨_, rfl⟩
              have HUD := hide hud
              have HUB : Hid (Below wr.heap.size wr ud) := hide (by rw [← hud]; exact HBM.out.drew)
              have HUW := hide (below_step HB.out HUB.out)
              have HUZ : Hid (ud.heap[g]? = some (.cells #[.int .i64 0, .int .i64 K.at_, .int .i64 k, .int .u64 K.id, .int .u64 0, .slice none 0 0] 30 (0, 0))) := hide (by rw [← hud]; exact HZM.out)
              have HCU : Hid (∀ W : World, Sets (fun c => c = g) ud W → CallC W p cb K Ai ci) := hide (fun W hW => HCL.out W (Sets.below HUW.out hW (fun c hc => by rw [hc, ← HGE.out]; exact HB.out.size) HUW.out.size))
              clear hud c8 c9 c10 c3 hck z0 z1 z2 z3 z4 z5 hf0 hf4 hf5 HCL
              refine j_startS [] (S := fun W => Sets (fun c => c = g) ud W) (by kernel_rfl) ?_
              rw [HUD.out]
              have HS : Hid (Sets (fun c => c = g) ud ud) := hide (Sets.refl _)
              refine' wpAnyJ_take (i := 0) (v := _) [] ?hi0n1q121 (by kernel_rfl) (by kernel_rfl) (by kernel_rfl) (by kernel_rfl) (by kernel_rfl) (Or.inl ⟨?hw0n1q121, ?hy0n1q121⟩) HS.out ?rest0n1q121
              case hi0n1q121 => (simp only [List.getElem?_toArray, List.getElem?_cons_succ, List.getElem?_cons_zero]; rfl)
              case hw0n1q121 => rfl
              case hy0n1q121 => (intro w' hw'; go_simp; try with_reducible rfl)
              try simp only [Act.put, List.setIfInBounds_toArray, List.set_cons_zero, List.set_cons_succ]
              refine' wpAnyJ_take (i := 1) (v := _) [] ?hi1n2q121 (by kernel_rfl) (by kernel_rfl) (by kernel_rfl) (by kernel_rfl) (by kernel_rfl) (Or.inl ⟨?hw1n2q121, ?hy1n2q121⟩) HS.out ?rest1n2q121
              case hi1n2q121 => (simp only [List.getElem?_toArray, List.getElem?_cons_succ, List.getElem?_cons_zero]; rfl)
              case hw1n2q121 => rfl
              case hy1n2q121 => (intro w' hw'; go_simp; try with_reducible rfl)
              try simp only [Act.put, List.setIfInBounds_toArray, List.set_cons_zero, List.set_cons_succ]
              refine' wpAnyJ_take (i := 2) (v := _) [] ?hi2n3q121 (by kernel_rfl) (by kernel_rfl) (by kernel_rfl) (by kernel_rfl) (by kernel_rfl) (Or.inl ⟨?hw2n3q121, ?hy2n3q121⟩) HS.out ?rest2n3q121
              case hi2n3q121 => (simp only [List.getElem?_toArray, List.getElem?_cons_succ, List.getElem?_cons_zero]; rfl)
              case hw2n3q121 => rfl
              case hy2n3q121 => (intro w' hw'; go_simp; try with_reducible rfl)
              try simp only [Act.put, List.setIfInBounds_toArray, List.set_cons_zero, List.set_cons_succ]
              refine' wpAnyJ_take (i := 3) (v := _) [] ?hi3n4q121 (by kernel_rfl) (by kernel_rfl) (by kernel_rfl) (by kernel_rfl) (by kernel_rfl) (Or.inl ⟨?hw3n4q121, ?hy3n4q121⟩) HS.out ?rest3n4q121
              case hi3n4q121 => (simp only [List.getElem?_toArray, List.getElem?_cons_succ, List.getElem?_cons_zero]; rfl)
              case hw3n4q121 => rfl
              case hy3n4q121 => (intro w' hw'; have q8 := (HCU.out _ hw').c8; go_simp; try with_reducible rfl)
              try simp only [Act.put, List.setIfInBounds_toArray, List.set_cons_zero, List.set_cons_succ]
              refine' wpAnyJ_take (i := 4) (v := _) [] ?hi4n5q121 (by kernel_rfl) (by kernel_rfl) (by kernel_rfl) (by kernel_rfl) (by kernel_rfl) (Or.inl ⟨?hw4n5q121, ?hy4n5q121⟩) HS.out ?rest4n5q121
              case hi4n5q121 => (simp only [List.getElem?_toArray, List.getElem?_cons_succ, List.getElem?_cons_zero]; rfl)
              case hw4n5q121 => rfl
              case hy4n5q121 => (intro w' hw'; go_simp; try with_reducible rfl)
              try simp only [Act.put, List.setIfInBounds_toArray, List.set_cons_zero, List.set_cons_succ]
              refine' wpAnyJ_step (i := 5) (o := _) (by kernel_rfl) ?ho5n6q121 (fun KK hK => ?step5n6q121)
              case ho5n6q121 => (simp only [List.getElem?_toArray, List.getElem?_cons_succ, List.getElem?_cons_zero]; rfl)
              obtain ⟨s0, s1, s2, s3, s4, s5⟩ := six_cells HUZ.out
              have sf : ∀ o, ud.frozen? ⟨g, o, none⟩ = false := (fun o => by simp [World.frozen?, HUZ.out])
              go_simp
              have hs0 : Sets (fun c => c = g) ud (ud.setCell ⟨g, 0, none⟩ (.int .i64 6)) := ((Sets.refl (S := fun c => c = g) ud).set (g := g) (fun _ => rfl) 0 (.int .i64 6))
              refine hK.out _ _ hs0 ?_
              clear hK KK s0 s1 s2 s3 s4 s5 sf HS
              have HS := hide hs0
              clear hs0
              try simp only [Act.put, List.setIfInBounds_toArray, List.set_cons_zero, List.set_cons_succ]
              refine' wpAnyJ_take (i := 6) (v := _) [] ?hi6n7q121 (by kernel_rfl) (by kernel_rfl) (by kernel_rfl) (by kernel_rfl) (by kernel_rfl) (Or.inl ⟨?hw6n7q121, ?hy6n7q121⟩) HS.out ?rest6n7q121
              case hi6n7q121 => (simp only [List.getElem?_toArray, List.getElem?_cons_succ, List.getElem?_cons_zero]; rfl)
              case hw6n7q121 => rfl
              case hy6n7q121 => (intro w' hw'; go_simp; try with_reducible rfl)
              try simp only [Act.put, List.setIfInBounds_toArray, List.set_cons_zero, List.set_cons_succ]
              refine' wpAnyJ_step (i := 7) (o := _) (by kernel_rfl) ?ho7n8q121 (fun KK hK => ?step7n8q121)
              case ho7n8q121 => (simp only [List.getElem?_toArray, List.getElem?_cons_succ, List.getElem?_cons_zero]; rfl)
              obtain ⟨s0, s1, s2, s3, s4, s5⟩ := six_cells HUZ.out
              have sf : ∀ o, ud.frozen? ⟨g, o, none⟩ = false := (fun o => by simp [World.frozen?, HUZ.out])
              go_simp
              have hs1 : Sets (fun c => c = g) ud ((ud.setCell ⟨g, 0, none⟩ (.int .i64 6)).setCell ⟨g, 4, none⟩ (.int .u64 K.ver)) := (((Sets.refl (S := fun c => c = g) ud).set (g := g) (fun _ => rfl) 0 (.int .i64 6)).set (g := g) (fun _ => rfl) 4 (.int .u64 K.ver))
              refine hK.out _ _ hs1 ?_
              clear hK KK s0 s1 s2 s3 s4 s5 sf HS
              have HS := hide hs1
              clear hs1
              try simp only [Act.put, List.setIfInBounds_toArray, List.set_cons_zero, List.set_cons_succ]
              refine wpAnyJ_done (by kernel_rfl) ?_ _
              refine NoPanic.normal ?_
              clear HS HCU
              go_wp2_with fail
              have hz0 : ud.heap[g]? = some (.cells [.int .i64 0, .int .i64 K.at_, .int .i64 k, .int .u64 K.id, .int .u64 0, .slice none 0 0].toArray 30 (0, 0)) := HUZ.out
              have hz1 := set_of_list (o := 4) (set_of_list (o := 0) hz0 (.int .i64 6)) (.int .u64 K.ver)
              have hs := ((Sets.refl (S := fun c => c = g) ud).set (g := g) (fun _ => rfl) 0 (.int .i64 6)).set (g := g) (fun _ => rfl) 4 (.int .u64 K.ver)
              have HZ1 : Hid ((((ud.setCell ⟨g, 0, none⟩ (.int .i64 6)).setCell ⟨g, 4, none⟩ (.int .u64 K.ver))).heap[g]? = some (.cells #[.int .i64 6, .int .i64 K.at_, .int .i64 k, .int .u64 K.id, .int .u64 K.ver, .slice none 0 0] 30 (0, 0))) := hide hz1
              have HB1 : Hid (Below wr.heap.size wr (((ud.setCell ⟨g, 0, none⟩ (.int .i64 6)).setCell ⟨g, 4, none⟩ (.int .u64 K.ver)))) := hide (Sets.below HUB.out hs (fun c hc => by rw [hc, HGE.out]; exact Nat.le_refl _) HUB.out.size)
              clear hz0 hz1 hs
              go_meet
              exact ⟨rfl, ⟨6, K.at_, (k : Int), K.id, K.ver, none, 0, []⟩, by rw [HMK.out]; rfl, ⟨⟨RowAt.nil_, by simp, by simp [maxLen]⟩, fun a ha => by cases ha⟩, HZ1.out, HB1.out⟩
            · rw [hc2] at hck
              clear hc2
              go_upto_region 12 with fail
              obtain ⟨ud, hud⟩ : ∃ ud, wm.drew = ud := ⟨_, rfl⟩
              have HUD := hide hud
              have HUB : Hid (Below wr.heap.size wr ud) := hide (by rw [← hud]; exact HBM.out.drew)
              have HUW := hide (below_step HB.out HUB.out)
              have HUZ : Hid (ud.heap[g]? = some (.cells #[.int .i64 0, .int .i64 K.at_, .int .i64 k, .int .u64 K.id, .int .u64 0, .slice none 0 0] 30 (0, 0))) := hide (by rw [← hud]; exact HZM.out)
              have HCU : Hid (∀ W : World, Sets (fun c => c = g) ud W → CallC W p cb K Ai ci) := hide (fun W hW => HCL.out W (Sets.below HUW.out hW (fun c hc => by rw [hc, ← HGE.out]; exact HB.out.size) HUW.out.size))
              clear hud c8 c9 c10 c3 hck z0 z1 z2 z3 z4 z5 hf0 hf4 hf5 HCL
              refine j_startS [] (S := fun W => Sets (fun c => c = g) ud W) (by kernel_rfl) ?_
              rw [HUD.out]
              have HS : Hid (Sets (fun c => c = g) ud ud) := hide (Sets.refl _)
              refine' wpAnyJ_take (i := 0) (v := _) [] ?hi0n1q122 (by kernel_rfl) (by kernel_rfl) (by kernel_rfl) (by kernel_rfl) (by kernel_rfl) (Or.inl ⟨?hw0n1q122, ?hy0n1q122⟩) HS.out ?rest0n1q122
              case hi0n1q122 => (simp only [List.getElem?_toArray, List.getElem?_cons_succ, List.getElem?_cons_zero]; rfl)
              case hw0n1q122 => rfl
              case hy0n1q122 => (intro w' hw'; go_simp; try with_reducible rfl)
              try simp only [Act.put, List.setIfInBounds_toArray, List.set_cons_zero, List.set_cons_succ]
              refine' wpAnyJ_take (i := 1) (v := _) [] ?hi1n2q122 (by kernel_rfl) (by kernel_rfl) (by kernel_rfl) (by kernel_rfl) (by kernel_rfl) (Or.inl ⟨?hw1n2q122, ?hy1n2q122⟩) HS.out ?rest1n2q122
              case hi1n2q122 => (simp only [List.getElem?_toArray, List.getElem?_cons_succ, List.getElem?_cons_zero]; rfl)
              case hw1n2q122 => rfl
              case hy1n2q122 => (intro w' hw'; go_simp; try with_reducible rfl)
              try simp only [Act.put, List.setIfInBounds_toArray, List.set_cons_zero, List.set_cons_succ]
              refine' wpAnyJ_take (i := 2) (v := _) [] ?hi2n3q122 (by kernel_rfl) (by kernel_rfl) (by kernel_rfl) (by kernel_rfl) (by kernel_rfl) (Or.inl ⟨?hw2n3q122, ?hy2n3q122⟩) HS.out ?rest2n3q122
              case hi2n3q122 => (simp only [List.getElem?_toArray, List.getElem?_cons_succ, List.getElem?_cons_zero]; rfl)
              case hw2n3q122 => rfl
              case hy2n3q122 => (intro w' hw'; go_simp; try with_reducible rfl)
              try simp only [Act.put, List.setIfInBounds_toArray, List.set_cons_zero, List.set_cons_succ]
              refine' wpAnyJ_take (i := 3) (v := _) [] ?hi3n4q122 (by kernel_rfl) (by kernel_rfl) (by kernel_rfl) (by kernel_rfl) (by kernel_rfl) (Or.inl ⟨?hw3n4q122, ?hy3n4q122⟩) HS.out ?rest3n4q122
              case hi3n4q122 => (simp only [List.getElem?_toArray, List.getElem?_cons_succ, List.getElem?_cons_zero]; rfl)
              case hw3n4q122 => rfl
              case hy3n4q122 => (intro w' hw'; have q8 := (HCU.out _ hw').c8; go_simp; try with_reducible rfl)
              try simp only [Act.put, List.setIfInBounds_toArray, List.set_cons_zero, List.set_cons_succ]
              refine' wpAnyJ_take (i := 4) (v := _) [] ?hi4n5q122 (by kernel_rfl) (by kernel_rfl) (by kernel_rfl) (by kernel_rfl) (by kernel_rfl) (Or.inl ⟨?hw4n5q122, ?hy4n5q122⟩) HS.out ?rest4n5q122
              case hi4n5q122 => (simp only [List.getElem?_toArray, List.getElem?_cons_succ, List.getElem?_cons_zero]; rfl)
              case hw4n5q122 => rfl
              case hy4n5q122 => (intro w' hw'; go_simp; try with_reducible rfl)
              try simp only [Act.put, List.setIfInBounds_toArray, List.set_cons_zero, List.set_cons_succ]
              refine' wpAnyJ_step (i := 5) (o := _) (by kernel_rfl) ?ho5n6q122 (fun KK hK => ?step5n6q122)
              case ho5n6q122 => (simp only [List.getElem?_toArray, List.getElem?_cons_succ, List.getElem?_cons_zero]; rfl)
              obtain ⟨s0, s1, s2, s3, s4, s5⟩ := six_cells HUZ.out
              have sf : ∀ o, ud.frozen? ⟨g, o, none⟩ = false := (fun o => by simp [World.frozen?, HUZ.out])
              go_simp
              have hs0 : Sets (fun c => c = g) ud (ud.setCell ⟨g, 0, none⟩ (.int .i64 6)) := ((Sets.refl (S := fun c => c = g) ud).set (g := g) (fun _ => rfl) 0 (.int .i64 6))
              refine hK.out _ _ hs0 ?_
              clear hK KK s0 s1 s2 s3 s4 s5 sf HS
              have HS := hide hs0
              clear hs0
              try simp only [Act.put, List.setIfInBounds_toArray, List.set_cons_zero, List.set_cons_succ]
              refine' wpAnyJ_take (i := 6) (v := _) [] ?hi6n7q122 (by kernel_rfl) (by kernel_rfl) (by kernel_rfl) (by kernel_rfl) (by kernel_rfl) (Or.inl ⟨?hw6n7q122, ?hy6n7q122⟩) HS.out ?rest6n7q122
              case hi6n7q122 => (simp only [List.getElem?_toArray, List.getElem?_cons_succ, List.getElem?_cons_zero]; rfl)
              case hw6n7q122 => rfl
              case hy6n7q122 => (intro w' hw'; go_simp; try with_reducible rfl)
              try simp only [Act.put, List.setIfInBounds_toArray, List.set_cons_zero, List.set_cons_succ]
              refine' wpAnyJ_step (i := 7) (o := _) (by kernel_rfl) ?ho7n8q122 (fun KK hK => ?step7n8q122)
              case ho7n8q122 => (simp only [List.getElem?_toArray, List.getElem?_cons_succ, List.getElem?_cons_zero]; rfl)
              obtain ⟨s0, s1, s2, s3, s4, s5⟩ := six_cells HUZ.out
              have sf : ∀ o, ud.frozen? ⟨g, o, none⟩ = false := (fun o => by simp [World.frozen?, HUZ.out])
              go_simp
              have hs1 : Sets (fun c => c = g) ud ((ud.setCell ⟨g, 0, none⟩ (.int .i64 6)).setCell ⟨g, 4, none⟩ (.int .u64 K.ver)) := (((Sets.refl (S := fun c => c = g) ud).set (g := g) (fun _ => rfl) 0 (.int .i64 6)).set (g := g) (fun _ => rfl) 4 (.int .u64 K.ver))
              refine hK.out _ _ hs1 ?_
              clear hK KK s0 s1 s2 s3 s4 s5 sf HS
              have HS := hide hs1
              clear hs1
              try simp only [Act.put, List.setIfInBounds_toArray, List.set_cons_zero, List.set_cons_succ]
              refine wpAnyJ_done (by kernel_rfl) ?_ _
              refine NoPanic.normal ?_
              clear HS HCU
              go_wp2_with fail
              have hz0 : ud.heap[g]? = some (.cells [.int .i64 0, .int .i64 K.at_, .int .i64 k, .int .u64 K.id, .int .u64 0, .slice none 0 0].toArray 30 (0, 0)) := HUZ.out
              have hz1 := set_of_list (o := 4) (set_of_list (o := 0) hz0 (.int .i64 6)) (.int .u64 K.ver)
              have hs := ((Sets.refl (S := fun c => c = g) ud).set (g := g) (fun _ => rfl) 0 (.int .i64 6)).set (g := g) (fun _ => rfl) 4 (.int .u64 K.ver)
              have HZ1 : Hid ((((ud.setCell ⟨g, 0, none⟩ (.int .i64 6)).setCell ⟨g, 4, none⟩ (.int .u64 K.ver))).heap[g]? = some (.cells #[.int .i64 6, .int .i64 K.at_, .int .i64 k, .int .u64 K.id, .int .u64 K.ver, .slice none 0 0] 30 (0, 0))) := hide hz1
              have HB1 : Hid (Below wr.heap.size wr (((ud.setCell ⟨g, 0, none⟩ (.int .i64 6)).setCell ⟨g, 4, none⟩ (.int .u64 K.ver)))) := hide (Sets.below HUB.out hs (fun c hc => by rw [hc, HGE.out]; exact Nat.le_refl _) HUB.out.size)
              clear hz0 hz1 hs
              go_meet
              exact ⟨rfl, ⟨6, K.at_, (k : Int), K.id, K.ver, none, 0, []⟩, by rw [HMK.out]; rfl, ⟨⟨RowAt.nil_, by simp, by simp [maxLen]⟩, fun a ha => by cases ha⟩, HZ1.out, HB1.out⟩
            · rw [hc2] at hck
              clear hc2
              go_upto_region 12 with fail
              obtain ⟨ud, hud⟩ : ∃ ud, wm.drew = ud := ⟨_, rfl⟩
              have HUD := hide hud
              have HUB : Hid (Below wr.heap.size wr ud) := hide (by rw [← hud]; exact HBM.out.drew)
              have HUW := hide (below_step HB.out HUB.out)
              have HUZ : Hid (ud.heap[g]? = some (.cells #[.int .i64 0, .int .i64 K.at_, .int .i64 k, .int .u64 K.id, .int .u64 0, .slice none 0 0] 30 (0, 0))) := hide (by rw [← hud]; exact HZM.out)
              have HCU : Hid (∀ W : World, Sets (fun c => c = g) ud W → CallC W p cb K Ai ci) := hide (fun W hW => HCL.out W (Sets.below HUW.out hW (fun c hc => by rw [hc, ← HGE.out]; exact HB.out.size) HUW.out.size))
              clear hud c8 c9 c10 c3 hck z0 z1 z2 z3 z4 z5 hf0 hf4 hf5 HCL
              refine j_startS [] (S := fun W => Sets (fun c => c = g) ud W) (by kernel_rfl) ?_
              rw [HUD.out]
              have HS : Hid (Sets (fun c => c = g) ud ud) := hide (Sets.refl _)
              refine' wpAnyJ_take (i := 0) (v := _) [] ?hi0n1q123 (by kernel_rfl) (by kernel_rfl) (by kernel_rfl) (by kernel_rfl) (by kernel_rfl) (Or.inl ⟨?hw0n1q123, ?hy0n1q123⟩) HS.out ?rest0n1q123
              case hi0n1q123 => (simp only [List.getElem?_toArray, List.getElem?_cons_succ, List.getElem?_cons_zero]; rfl)
              case hw0n1q123 => rfl
              case hy0n1q123 => (intro w' hw'; go_simp; try with_reducible rfl)
              try simp only [Act.put, List.setIfInBounds_toArray, List.set_cons_zero, List.set_cons_succ]
              refine' wpAnyJ_take (i := 1) (v := _) [] ?hi1n2q123 (by kernel_rfl) (by kernel_rfl) (by kernel_rfl) (by kernel_rfl) (by kernel_rfl) (Or.inl ⟨?hw1n2q123, ?hy1n2q123⟩) HS.out ?rest1n2q123
              case hi1n2q123 => (simp only [List.getElem?_toArray, List.getElem?_cons_succ, List.getElem?_cons_zero]; rfl)
              case hw1n2q123 => rfl
              case hy1n2q123 => (intro w' hw'; go_simp; try with_reducible rfl)
              try simp only [Act.put, List.setIfInBounds_toArray, List.set_cons_zero, List.set_cons_succ]
              refine' wpAnyJ_take (i := 2) (v := _) [] ?hi2n3q123 (by kernel_rfl) (by kernel_rfl) (by kernel_rfl) (by kernel_rfl) (by kernel_rfl) (Or.inl ⟨?hw2n3q123, ?hy2n3q123⟩) HS.out ?rest2n3q123
              case hi2n3q123 => (simp only [List.getElem?_toArray, List.getElem?_cons_succ, List.getElem?_cons_zero]; rfl)
              case hw2n3q123 => rfl
              case hy2n3q123 => (intro w' hw'; go_simp; try with_reducible rfl)
              try simp only [Act.put, List.setIfInBounds_toArray, List.set_cons_zero, List.set_cons_succ]
              refine' wpAnyJ_take (i := 3) (v := _) [] ?hi3n4q123 (by kernel_rfl) (by kernel_rfl) (by kernel_rfl) (by kernel_rfl) (by kernel_rfl) (Or.inl ⟨?hw3n4q123, ?hy3n4q123⟩) HS.out ?rest3n4q123
              case hi3n4q123 => (simp only [List.getElem?_toArray, List.getElem?_cons_succ, List.getElem?_cons_zero]; rfl)
              case hw3n4q123 => rfl
              case hy3n4q123 => (intro w' hw'; have q8 := (HCU.out _ hw').c8; go_simp; try with_reducible rfl)
              try simp only [Act.put, List.setIfInBounds_toArray, List.set_cons_zero, List.set_cons_succ]
              refine' wpAnyJ_take (i := 4) (v := _) [] ?hi4n5q123 (by kernel_rfl) (by kernel_rfl) (by kernel_rfl) (by kernel_rfl) (by kernel_rfl) (Or.inl ⟨?hw4n5q123, ?hy4n5q123⟩) HS.out ?rest4n5q123
              case hi4n5q123 => (simp only [List.getElem?_toArray, List.getElem?_cons_succ, List.getElem?_cons_zero]; rfl)
              case hw4n5q123 => rfl
              case hy4n5q123 => (intro w' hw'; go_simp; try with_reducible rfl)
              try simp only [Act.put, List.setIfInBounds_toArray, List.set_cons_zero, List.set_cons_succ]
              refine' wpAnyJ_step (i := 5) (o := _) (by kernel_rfl) ?ho5n6q123 (fun KK hK => ?step5n6q123)
              case ho5n6q123 => (simp only [List.getElem?_toArray, List.getElem?_cons_succ, List.getElem?_cons_zero]; rfl)
              obtain ⟨s0, s1, s2, s3, s4, s5⟩ := six_cells HUZ.out
              have sf : ∀ o, ud.frozen? ⟨g, o, none⟩ = false := (fun o => by simp [World.frozen?, HUZ.out])
              go_simp
              have hs0 : Sets (fun c => c = g) ud (ud.setCell ⟨g, 0, none⟩ (.int .i64 6)) := ((Sets.refl (S := fun c => c = g) ud).set (g := g) (fun _ => rfl) 0 (.int .i64 6))
              refine hK.out _ _ hs0 ?_
              clear hK KK s0 s1 s2 s3 s4 s5 sf HS
              have HS := hide hs0
              clear hs0
              try simp only [Act.put, List.setIfInBounds_toArray, List.set_cons_zero, List.set_cons_succ]
              refine' wpAnyJ_take (i := 6) (v := _) [] ?hi6n7q123 (by kernel_rfl) (by kernel_rfl) (by kernel_rfl) (by kernel_rfl) (by kernel_rfl) (Or.inl ⟨?hw6n7q123, ?hy6n7q123⟩) HS.out ?rest6n7q123
              case hi6n7q123 => (simp only [List.getElem?_toArray, List.getElem?_cons_succ, List.getElem?_cons_zero]; rfl)
              case hw6n7q123 => rfl
              case hy6n7q123 => (intro w' hw'; go_simp; try with_reducible rfl)
              try simp only [Act.put, List.setIfInBounds_toArray, List.set_cons_zero, List.set_cons_succ]
              refine' wpAnyJ_step (i := 7) (o := _) (by kernel_rfl) ?ho7n8q123 (fun KK hK => ?step7n8q123)
              case ho7n8q123 => (simp only [List.getElem?_toArray, List.getElem?_cons_succ, List.getElem?_cons_zero]; rfl)
              obtain ⟨s0, s1, s2, s3, s4, s5⟩ := six_cells HUZ.out
              have sf : ∀ o, ud.frozen? ⟨g, o, none⟩ = false := (fun o => by simp [World.frozen?, HUZ.out])
              go_simp
              have hs1 : Sets (fun c => c = g) ud ((ud.setCell ⟨g, 0, none⟩ (.int .i64 6)).setCell ⟨g, 4, none⟩ (.int .u64 K.ver)) := (((Sets.refl (S := fun c => c = g) ud).set (g := g) (fun _ => rfl) 0 (.int .i64 6)).set (g := g) (fun _ => rfl) 4 (.int .u64 K.ver))
              refine hK.out _ _ hs1 ?_
              clear hK KK s0 s1 s2 s3 s4 s5 sf HS
              have HS := hide hs1
              clear hs1
              try simp only [Act.put, List.setIfInBounds_toArray, List.set_cons_zero, List.set_cons_succ]
              refine wpAnyJ_done (by kernel_rfl) ?_ _
              refine NoPanic.normal ?_
              clear HS HCU
              go_wp2_with fail
              have hz0 : ud.heap[g]? = some (.cells [.int .i64 0, .int .i64 K.at_, .int .i64 k, .int .u64 K.id, .int .u64 0, .slice none 0 0].toArray 30 (0, 0)) := HUZ.out
              have hz1 := set_of_list (o := 4) (set_of_list (o := 0) hz0 (.int .i64 6)) (.int .u64 K.ver)
              have hs := ((Sets.refl (S := fun c => c = g) ud).set (g := g) (fun _ => rfl) 0 (.int .i64 6)).set (g := g) (fun _ => rfl) 4 (.int .u64 K.ver)
              have HZ1 : Hid ((((ud.setCell ⟨g, 0, none⟩ (.int .i64 6)).setCell ⟨g, 4, none⟩ (.int .u64 K.ver))).heap[g]? = some (.cells #[.int .i64 6, .int .i64 K.at_, .int .i64 k, .int .u64 K.id, .int .u64 K.ver, .slice none 0 0] 30 (0, 0))) := hide hz1
              have HB1 : Hid (Below wr.heap.size wr (((ud.setCell ⟨g, 0, none⟩ (.int .i64 6)).setCell ⟨g, 4, none⟩ (.int .u64 K.ver)))) := hide (Sets.below HUB.out hs (fun c hc => by rw [hc, HGE.out]; exact Nat.le_refl _) HUB.out.size)
              clear hz0 hz1 hs
              go_meet
              exact ⟨rfl, ⟨6, K.at_, (k : Int), K.id, K.ver, none, 0, []⟩, by rw [HMK.out]; rfl, ⟨⟨RowAt.nil_, by simp, by simp [maxLen]⟩, fun a ha => by cases ha⟩, HZ1.out, HB1.out⟩
          · have hMK : msgK K (k : Int) = ⟨8, K.at_, (k : Int), K.id, K.ver, none, 0, K.L⟩ := by unfold msgK; rw [if_neg hph]
            have HMK := hide hMK
            have hphI : (K.ph == 1) = false := beq_eq_false_iff_ne.2 hph
            obtain ⟨l1, hl1⟩ : ∃ l1, K.L.length = l1 := ⟨_, rfl⟩
            have HL1 := hide hl1
            rw [hl1] at c11
            clear hMK hph hl1
            rcases hcase with ⟨rfl, hc2⟩ | ⟨rfl, hc2⟩ | ⟨rfl, hc2⟩
            · rw [hc2] at hck
              clear hc2
              go_upto_region 14 with fail
              obtain ⟨ud, hud⟩ : ∃ ud, wm.drew = ud := ⟨_, rfl⟩
              have HUD := hide hud
              have HUB : Hid (Below wr.heap.size wr ud) := hide (by rw [← hud]; exact HBM.out.drew)
              have HUW := hide (below_step HB.out HUB.out)
              have HUZ : Hid (ud.heap[g]? = some (.cells #[.int .i64 0, .int .i64 K.at_, .int .i64 k, .int .u64 K.id, .int .u64 0, .slice none 0 0] 30 (0, 0))) := hide (by rw [← hud]; exact HZM.out)
              have HCU : Hid (∀ W : World, Sets (fun c => c = g) ud W → CallC W p cb K Ai ci) := hide (fun W hW => HCL.out W (Sets.below HUW.out hW (fun c hc => by rw [hc, ← HGE.out]; exact HB.out.size) HUW.out.size))
              clear hud c8 c9 c10 c3 c11 hck z0 z1 z2 z3 z4 z5 hf0 hf4 hf5 HCL
              refine j_startS [] (S := fun W => Sets (fun c => c = g) ud W) (by kernel_rfl) ?_
              rw [HUD.out]
              have HS : Hid (Sets (fun c => c = g) ud ud) := hide (Sets.refl _)
              refine' wpAnyJ_take (i := 0) (v := _) [] ?hi0n1q141 (by kernel_rfl) (by kernel_rfl) (by kernel_rfl) (by kernel_rfl) (by kernel_rfl) (Or.inl ⟨?hw0n1q141, ?hy0n1q141⟩) HS.out ?rest0n1q141
              case hi0n1q141 => (simp only [List.getElem?_toArray, List.getElem?_cons_succ, List.getElem?_cons_zero]; rfl)
              case hw0n1q141 => rfl
              case hy0n1q141 => (intro w' hw'; go_simp; try with_reducible rfl)
              try simp only [Act.put, List.setIfInBounds_toArray, List.set_cons_zero, List.set_cons_succ]
              refine' wpAnyJ_take (i := 1) (v := _) [] ?hi1n2q141 (by kernel_rfl) (by kernel_rfl) (by kernel_rfl) (by kernel_rfl) (by kernel_rfl) (Or.inl ⟨?hw1n2q141, ?hy1n2q141⟩) HS.out ?rest1n2q141
              case hi1n2q141 => (simp only [List.getElem?_toArray, List.getElem?_cons_succ, List.getElem?_cons_zero]; rfl)
              case hw1n2q141 => rfl
              case hy1n2q141 => (intro w' hw'; go_simp; try with_reducible rfl)
              try simp only [Act.put, List.setIfInBounds_toArray, List.set_cons_zero, List.set_cons_succ]
              refine' wpAnyJ_take (i := 2) (v := _) [] ?hi2n3q141 (by kernel_rfl) (by kernel_rfl) (by kernel_rfl) (by kernel_rfl) (by kernel_rfl) (Or.inl ⟨?hw2n3q141, ?hy2n3q141⟩) HS.out ?rest2n3q141
              case hi2n3q141 => (simp only [List.getElem?_toArray, List.getElem?_cons_succ, List.getElem?_cons_zero]; rfl)
              case hw2n3q141 => rfl
              case hy2n3q141 => (intro w' hw'; go_simp; try with_reducible rfl)
              try simp only [Act.put, List.setIfInBounds_toArray, List.set_cons_zero, List.set_cons_succ]
              refine' wpAnyJ_take (i := 3) (v := _) [] ?hi3n4q141 (by kernel_rfl) (by kernel_rfl) (by kernel_rfl) (by kernel_rfl) (by kernel_rfl) (Or.inl ⟨?hw3n4q141, ?hy3n4q141⟩) HS.out ?rest3n4q141
              case hi3n4q141 => (simp only [List.getElem?_toArray, List.getElem?_cons_succ, List.getElem?_cons_zero]; rfl)
              case hw3n4q141 => rfl
              case hy3n4q141 => (intro w' hw'; have q8 := (HCU.out _ hw').c8; go_simp; try with_reducible rfl)
              try simp only [Act.put, List.setIfInBounds_toArray, List.set_cons_zero, List.set_cons_succ]
              refine' wpAnyJ_take (i := 4) (v := _) [] ?hi4n5q141 (by kernel_rfl) (by kernel_rfl) (by kernel_rfl) (by kernel_rfl) (by kernel_rfl) (Or.inl ⟨?hw4n5q141, ?hy4n5q141⟩) HS.out ?rest4n5q141
              case hi4n5q141 => (simp only [List.getElem?_toArray, List.getElem?_cons_succ, List.getElem?_cons_zero]; rfl)
              case hw4n5q141 => rfl
              case hy4n5q141 => (intro w' hw'; go_simp; try with_reducible rfl)
              try simp only [Act.put, List.setIfInBounds_toArray, List.set_cons_zero, List.set_cons_succ]
              refine' wpAnyJ_take (i := 5) (v := _) [] ?hi5n6q141 (by kernel_rfl) (by kernel_rfl) (by kernel_rfl) (by kernel_rfl) (by kernel_rfl) (Or.inl ⟨?hw5n6q141, ?hy5n6q141⟩) HS.out ?rest5n6q141
              case hi5n6q141 => (simp only [List.getElem?_toArray, List.getElem?_cons_succ, List.getElem?_cons_zero]; rfl)
              case hw5n6q141 => rfl
              case hy5n6q141 => (intro w' hw'; go_simp; try with_reducible rfl)
              try simp only [Act.put, List.setIfInBounds_toArray, List.set_cons_zero, List.set_cons_succ]
              refine' wpAnyJ_take (i := 6) (v := _) [] ?hi6n7q141 (by kernel_rfl) (by kernel_rfl) (by kernel_rfl) (by kernel_rfl) (by kernel_rfl) (Or.inl ⟨?hw6n7q141, ?hy6n7q141⟩) HS.out ?rest6n7q141
              case hi6n7q141 => (simp only [List.getElem?_toArray, List.getElem?_cons_succ, List.getElem?_cons_zero]; rfl)
              case hw6n7q141 => rfl
              case hy6n7q141 => (intro w' hw'; go_simp; try with_reducible rfl)
              try simp only [Act.put, List.setIfInBounds_toArray, List.set_cons_zero, List.set_cons_succ]
              refine' wpAnyJ_take (i := 7) (v := _) [] ?hi7n8q141 (by kernel_rfl) (by kernel_rfl) (by kernel_rfl) (by kernel_rfl) (by kernel_rfl) (Or.inl ⟨?hw7n8q141, ?hy7n8q141⟩) HS.out ?rest7n8q141
              case hi7n8q141 => (simp only [List.getElem?_toArray, List.getElem?_cons_succ, List.getElem?_cons_zero]; rfl)
              case hw7n8q141 => rfl
              case hy7n8q141 => (intro w' hw'; have q11 := (HCU.out _ hw').c11; rw [HL1.out] at q11; go_simp; try with_reducible rfl)
              try simp only [Act.put, List.setIfInBounds_toArray, List.set_cons_zero, List.set_cons_succ]
              refine' wpAnyJ_take (i := 8) (v := _) [] ?hi8n9q141 (by kernel_rfl) (by kernel_rfl) (by kernel_rfl) (by kernel_rfl) (by kernel_rfl) (Or.inl ⟨?hw8n9q141, ?hy8n9q141⟩) HS.out ?rest8n9q141
              case hi8n9q141 => (simp only [List.getElem?_toArray, List.getElem?_cons_succ, List.getElem?_cons_zero]; rfl)
              case hw8n9q141 => rfl
              case hy8n9q141 => (intro w' hw'; go_simp; try with_reducible rfl)
              try simp only [Act.put, List.setIfInBounds_toArray, List.set_cons_zero, List.set_cons_succ]
              refine' wpAnyJ_step (i := 9) (o := _) (by kernel_rfl) ?ho9n10q141 (fun KK hK => ?step9n10q141)
              case ho9n10q141 => (simp only [List.getElem?_toArray, List.getElem?_cons_succ, List.getElem?_cons_zero]; rfl)
              obtain ⟨s0, s1, s2, s3, s4, s5⟩ := six_cells HUZ.out
              have sf : ∀ o, ud.frozen? ⟨g, o, none⟩ = false := (fun o => by simp [World.frozen?, HUZ.out])
              go_simp
              have hs0 : Sets (fun c => c = g) ud (ud.setCell ⟨g, 0, none⟩ (.int .i64 8)) := ((Sets.refl (S := fun c => c = g) ud).set (g := g) (fun _ => rfl) 0 (.int .i64 8))
              refine hK.out _ _ hs0 ?_
              clear hK KK s0 s1 s2 s3 s4 s5 sf HS
              have HS := hide hs0
              clear hs0
              try simp only [Act.put, List.setIfInBounds_toArray, List.set_cons_zero, List.set_cons_succ]
              refine' wpAnyJ_take (i := 10) (v := _) [] ?hi10n11q141 (by kernel_rfl) (by kernel_rfl) (by kernel_rfl) (by kernel_rfl) (by kernel_rfl) (Or.inl ⟨?hw10n11q141, ?hy10n11q141⟩) HS.out ?rest10n11q141
              case hi10n11q141 => (simp only [List.getElem?_toArray, List.getElem?_cons_succ, List.getElem?_cons_zero]; rfl)
              case hw10n11q141 => rfl
              case hy10n11q141 => (intro w' hw'; go_simp; try with_reducible rfl)
              try simp only [Act.put, List.setIfInBounds_toArray, List.set_cons_zero, List.set_cons_succ]
              refine' wpAnyJ_step (i := 11) (o := _) (by kernel_rfl) ?ho11n12q141 (fun KK hK => ?step11n12q141)
              case ho11n12q141 => (simp only [List.getElem?_toArray, List.getElem?_cons_succ, List.getElem?_cons_zero]; rfl)
              obtain ⟨s0, s1, s2, s3, s4, s5⟩ := six_cells HUZ.out
              have sf : ∀ o, ud.frozen? ⟨g, o, none⟩ = false := (fun o => by simp [World.frozen?, HUZ.out])
              go_simp
              have hs1 : Sets (fun c => c = g) ud ((ud.setCell ⟨g, 0, none⟩ (.int .i64 8)).setCell ⟨g, 4, none⟩ (.int .u64 K.ver)) := (((Sets.refl (S := fun c => c = g) ud).set (g := g) (fun _ => rfl) 0 (.int .i64 8)).set (g := g) (fun _ => rfl) 4 (.int .u64 K.ver))
              refine hK.out _ _ hs1 ?_
              clear hK KK s0 s1 s2 s3 s4 s5 sf HS
              have HS := hide hs1
              clear hs1
              try simp only [Act.put, List.setIfInBounds_toArray, List.set_cons_zero, List.set_cons_succ]
              refine' wpAnyJ_take (i := 12) (v := _) [] ?hi12n13q141 (by kernel_rfl) (by kernel_rfl) (by kernel_rfl) (by kernel_rfl) (by kernel_rfl) (Or.inl ⟨?hw12n13q141, ?hy12n13q141⟩) HS.out ?rest12n13q141
              case hi12n13q141 => (simp only [List.getElem?_toArray, List.getElem?_cons_succ, List.getElem?_cons_zero]; rfl)
              case hw12n13q141 => rfl
              case hy12n13q141 => (intro w' hw'; go_simp; try with_reducible rfl)
              try simp only [Act.put, List.setIfInBounds_toArray, List.set_cons_zero, List.set_cons_succ]
              refine' wpAnyJ_step (i := 13) (o := _) (by kernel_rfl) ?ho13n14q141 (fun KK hK => ?step13n14q141)
              case ho13n14q141 => (simp only [List.getElem?_toArray, List.getElem?_cons_succ, List.getElem?_cons_zero]; rfl)
              obtain ⟨s0, s1, s2, s3, s4, s5⟩ := six_cells HUZ.out
              have sf : ∀ o, ud.frozen? ⟨g, o, none⟩ = false := (fun o => by simp [World.frozen?, HUZ.out])
              go_simp
              have hs2 : Sets (fun c => c = g) ud (((ud.setCell ⟨g, 0, none⟩ (.int .i64 8)).setCell ⟨g, 4, none⟩ (.int .u64 K.ver)).setCell ⟨g, 5, none⟩ (.slice Ai l1 ci)) := ((((Sets.refl (S := fun c => c = g) ud).set (g := g) (fun _ => rfl) 0 (.int .i64 8)).set (g := g) (fun _ => rfl) 4 (.int .u64 K.ver)).set (g := g) (fun _ => rfl) 5 (.slice Ai l1 ci))
              refine hK.out _ _ hs2 ?_
              clear hK KK s0 s1 s2 s3 s4 s5 sf HS
              have HS := hide hs2
              clear hs2
              try simp only [Act.put, List.setIfInBounds_toArray, List.set_cons_zero, List.set_cons_succ]
              refine wpAnyJ_done (by kernel_rfl) ?_ _
              refine NoPanic.normal ?_
              clear HS HCU
              go_wp2_with fail
              have hz0 : ud.heap[g]? = some (.cells [.int .i64 0, .int .i64 K.at_, .int .i64 k, .int .u64 K.id, .int .u64 0, .slice none 0 0].toArray 30 (0, 0)) := HUZ.out
              have hz1 := set_of_list (o := 5) (set_of_list (o := 4) (set_of_list (o := 0) hz0 (.int .i64 8)) (.int .u64 K.ver)) (.slice Ai l1 ci)
              have hs := ((Sets.refl (S := fun c => c = g) ud).set (g := g) (fun _ => rfl) 0 (.int .i64 8)).set (g := g) (fun _ => rfl) 4 (.int .u64 K.ver) |>.set (g := g) (fun _ => rfl) 5 (.slice Ai l1 ci)
              have HZ1 : Hid (∀ l, l = l1 → ((((ud.setCell ⟨g, 0, none⟩ (.int .i64 8)).setCell ⟨g, 4, none⟩ (.int .u64 K.ver)).setCell ⟨g, 5, none⟩ (.slice Ai l1 ci))).heap[g]? = some (.cells #[.int .i64 8, .int .i64 K.at_, .int .i64 k, .int .u64 K.id, .int .u64 K.ver, .slice Ai l ci] 30 (0, 0))) := hide (fun l h => by rw [h]; exact hz1)
              have HB1 : Hid (Below wr.heap.size wr ((((ud.setCell ⟨g, 0, none⟩ (.int .i64 8)).setCell ⟨g, 4, none⟩ (.int .u64 K.ver)).setCell ⟨g, 5, none⟩ (.slice Ai l1 ci)))) := hide (Sets.below HUB.out hs (fun c hc => by rw [hc, HGE.out]; exact Nat.le_refl _) HUB.out.size)
              clear hz0 hz1 hs
              go_meet
              exact ⟨rfl, ⟨8, K.at_, (k : Int), K.id, K.ver, Ai, ci, K.L⟩, by rw [HMK.out]; rfl, ⟨HIT.out, fun a ha => (HFAR.out a.block (by subst ha; rfl)).1⟩, HZ1.out _ HL1.out, HB1.out⟩
            · rw [hc2] at hck
              clear hc2
              go_upto_region 14 with fail
              obtain ⟨ud, hud⟩ : ∃ ud, wm.drew = ud := ⟨_, rfl⟩
              have HUD := hide hud
              have HUB : Hid (Below wr.heap.size wr ud) := hide (by rw [← hud]; exact HBM.out.drew)
              have HUW := hide (below_step HB.out HUB.out)
              have HUZ : Hid (ud.heap[g]? = some (.cells #[.int .i64 0, .int .i64 K.at_, .int .i64 k, .int .u64 K.id, .int .u64 0, .slice none 0 0] 30 (0, 0))) := hide (by rw [← hud]; exact HZM.out)
              have HCU : Hid (∀ W : World, Sets (fun c => c = g) ud W → CallC W p cb K Ai ci) := hide (fun W hW => HCL.out W (Sets.below HUW.out hW (fun c hc => by rw [hc, ← HGE.out]; exact HB.out.size) HUW.out.size))
              clear hud c8 c9 c10 c3 c11 hck z0 z1 z2 z3 z4 z5 hf0 hf4 hf5 HCL
              refine j_startS [] (S := fun W => Sets (fun c => c = g) ud W) (by kernel_rfl) ?_
              rw [HUD.out]
              have HS : Hid (Sets (fun c => c = g) ud ud) := hide (Sets.refl _)
              refine' wpAnyJ_take (i := 0) (v := _) [] ?hi0n1q142 (by kernel_rfl) (by kernel_rfl) (by kernel_rfl) (by kernel_rfl) (by kernel_rfl) (Or.inl ⟨?hw0n1q142, ?hy0n1q142⟩) HS.out ?rest0n1q142
              case hi0n1q142 => (simp only [List.getElem?_toArray, List.getElem?_cons_succ, List.getElem?_cons_zero]; rfl)
              case hw0n1q142 => rfl
              case hy0n1q142 => (intro w' hw'; go_simp; try with_reducible rfl)
              try simp only [Act.put, List.setIfInBounds_toArray, List.set_cons_zero, List.set_cons_succ]
              refine' wpAnyJ_take (i := 1) (v := _) [] ?hi1n2q142 (by kernel_rfl) (by kernel_rfl) (by kernel_rfl) (by kernel_rfl) (by kernel_rfl) (Or.inl ⟨?hw1n2q142, ?hy1n2q142⟩) HS.out ?rest1n2q142
              case hi1n2q142 => (simp only [List.getElem?_toArray, List.getElem?_cons_succ, List.getElem?_cons_zero]; rfl)
              case hw1n2q142 => rfl
              case hy1n2q142 => (intro w' hw'; go_simp; try with_reducible rfl)
              try simp only [Act.put, List.setIfInBounds_toArray, List.set_cons_zero, List.set_cons_succ]
              refine' wpAnyJ_take (i := 2) (v := _) [] ?hi2n3q142 (by kernel_rfl) (by kernel_rfl) (by kernel_rfl) (by kernel_rfl) (by kernel_rfl) (Or.inl ⟨?hw2n3q142, ?hy2n3q142⟩) HS.out ?rest2n3q142
              case hi2n3q142 => (simp only [List.getElem?_toArray, List.getElem?_cons_succ, List.getElem?_cons_zero]; rfl)
              case hw2n3q142 => rfl
              case hy2n3q142 => (intro w' hw'; go_simp; try with_reducible rfl)
              try simp only [Act.put, List.setIfInBounds_toArray, List.set_cons_zero, List.set_cons_succ]
              refine' wpAnyJ_take (i := 3) (v := _) [] ?hi3n4q142 (by kernel_rfl) (by kernel_rfl) (by kernel_rfl) (by kernel_rfl) (by kernel_rfl) (Or.inl ⟨?hw3n4q142, ?hy3n4q142⟩) HS.out ?rest3n4q142
              case hi3n4q142 => (simp only [List.getElem?_toArray, List.getElem?_cons_succ, List.getElem?_cons_zero]; rfl)
              case hw3n4q142 => rfl
              case hy3n4q142 => (intro w' hw'; have q8 := (HCU.out _ hw').c8; go_simp; try with_reducible rfl)
              try simp only [Act.put, List.setIfInBounds_toArray, List.set_cons_zero, List.set_cons_succ]
              refine' wpAnyJ_take (i := 4) (v := _) [] ?hi4n5q142 (by kernel_rfl) (by kernel_rfl) (by kernel_rfl) (by kernel_rfl) (by kernel_rfl) (Or.inl ⟨?hw4n5q142, ?hy4n5q142⟩) HS.out ?rest4n5q142
              case hi4n5q142 => (simp only [List.getElem?_toArray, List.getElem?_cons_succ, List.getElem?_cons_zero]; rfl)
              case hw4n5q142 => rfl
              case hy4n5q142 => (intro w' hw'; go_simp; try with_reducible rfl)
              try simp only [Act.put, List.setIfInBounds_toArray, List.set_cons_zero, List.set_cons_succ]
              refine' wpAnyJ_take (i := 5) (v := _) [] ?hi5n6q142 (by kernel_rfl) (by kernel_rfl) (by kernel_rfl) (by kernel_rfl) (by kernel_rfl) (Or.inl ⟨?hw5n6q142, ?hy5n6q142⟩) HS.out ?rest5n6q142
              case hi5n6q142 => (simp only [List.getElem?_toArray, List.getElem?_cons_succ, List.getElem?_cons_zero]; rfl)
              case hw5n6q142 => rfl
              case hy5n6q142 => (intro w' hw'; go_simp; try with_reducible rfl)
              try simp only [Act.put, List.setIfInBounds_toArray, List.set_cons_zero, List.set_cons_succ]
              refine' wpAnyJ_take (i := 6) (v := _) [] ?hi6n7q142 (by kernel_rfl) (by kernel_rfl) (by kernel_rfl) (by kernel_rfl) (by kernel_rfl) (Or.inl ⟨?hw6n7q142, ?hy6n7q142⟩) HS.out ?rest6n7q142
              case hi6n7q142 => (simp only [List.getElem?_toArray, List.getElem?_cons_succ, List.getElem?_cons_zero]; rfl)
              case hw6n7q142 => rfl
              case hy6n7q142 => (intro w' hw'; go_simp; try with_reducible rfl)
              try simp only [Act.put, List.setIfInBounds_toArray, List.set_cons_zero, List.set_cons_succ]
              refine' wpAnyJ_take (i := 7) (v := _) [] ?hi7n8q142 (by kernel_rfl) (by kernel_rfl) (by kernel_rfl) (by kernel_rfl) (by kernel_rfl) (Or.inl ⟨?hw7n8q142, ?hy7n8q142⟩) HS.out ?rest7n8q142
              case hi7n8q142 => (simp only [List.getElem?_toArray, List.getElem?_cons_succ, List.getElem?_cons_zero]; rfl)
              case hw7n8q142 => rfl
              case hy7n8q142 => (intro w' hw'; have q11 := (HCU.out _ hw').c11; rw [HL1.out] at q11; go_simp; try with_reducible rfl)
              try simp only [Act.put, List.setIfInBounds_toArray, List.set_cons_zero, List.set_cons_succ]
              refine' wpAnyJ_take (i := 8) (v := _) [] ?hi8n9q142 (by kernel_rfl) (by kernel_rfl) (by kernel_rfl) (by kernel_rfl) (by kernel_rfl) (Or.inl ⟨?hw8n9q142, ?hy8n9q142⟩) HS.out ?rest8n9q142
              case hi8n9q142 => (simp only [List.getElem?_toArray, List.getElem?_cons_succ, List.getElem?_cons_zero]; rfl)
              case hw8n9q142 => rfl
              case hy8n9q142 => (intro w' hw'; go_simp; try with_reducible rfl)
              try simp only [Act.put, List.setIfInBounds_toArray, List.set_cons_zero, List.set_cons_succ]
              refine' wpAnyJ_step (i := 9) (o := _) (by kernel_rfl) ?ho9n10q142 (fun KK hK => ?step9n10q142)
              case ho9n10q142 => (simp only [List.getElem?_toArray, List.getElem?_cons_succ, List.getElem?_cons_zero]; rfl)
              obtain ⟨s0, s1, s2, s3, s4, s5⟩ := six_cells HUZ.out
              have sf : ∀ o, ud.frozen? ⟨g, o, none⟩ = false := (fun o => by simp [World.frozen?, HUZ.out])
              go_simp
              have hs0 : Sets (fun c => c = g) ud (ud.setCell ⟨g, 0, none⟩ (.int .i64 8)) := ((Sets.refl (S := fun c => c = g) ud).set (g := g) (fun _ => rfl) 0 (.int .i64 8))
              refine hK.out _ _ hs0 ?_
              clear hK KK s0 s1 s2 s3 s4 s5 sf HS
              have HS := hide hs0
              clear hs0
              try simp only [Act.put, List.setIfInBounds_toArray, List.set_cons_zero, List.set_cons_succ]
              refine' wpAnyJ_take (i := 10) (v := _) [] ?hi10n11q142 (by kernel_rfl) (by kernel_rfl) (by kernel_rfl) (by kernel_rfl) (by kernel_rfl) (Or.inl ⟨?hw10n11q142, ?hy10n11q142⟩) HS.out ?rest10n11q142
              case hi10n11q142 => (simp only [List.getElem?_toArray, List.getElem?_cons_succ, List.getElem?_cons_zero]; rfl)
              case hw10n11q142 => rfl
              case hy10n11q142 => (intro w' hw'; go_simp; try with_reducible rfl)
              try simp only [Act.put, List.setIfInBounds_toArray, List.set_cons_zero, List.set_cons_succ]
              refine' wpAnyJ_step (i := 11) (o := _) (by kernel_rfl) ?ho11n12q142 (fun KK hK => ?step11n12q142)
              case ho11n12q142 => (simp only [List.getElem?_toArray, List.getElem?_cons_succ, List.getElem?_cons_zero]; rfl)
              obtain ⟨s0, s1, s2, s3, s4, s5⟩ := six_cells HUZ.out
              have sf : ∀ o, ud.frozen? ⟨g, o, none⟩ = false := (fun o => by simp [World.frozen?, HUZ.out])
              go_simp
              have hs1 : Sets (fun c => c = g) ud ((ud.setCell ⟨g, 0, none⟩ (.int .i64 8)).setCell ⟨g, 4, none⟩ (.int .u64 K.ver)) := (((Sets.refl (S := fun c => c = g) ud).set (g := g) (fun _ => rfl) 0 (.int .i64 8)).set (g := g) (fun _ => rfl) 4 (.int .u64 K.ver))
              refine hK.out _ _ hs1 ?_
              clear hK KK s0 s1 s2 s3 s4 s5 sf HS
              have HS := hide hs1
              clear hs1
              try simp only [Act.put, List.setIfInBounds_toArray, List.set_cons_zero, List.set_cons_succ]
              refine' wpAnyJ_take (i := 12) (v := _) [] ?hi12n13q142 (by kernel_rfl) (by kernel_rfl) (by kernel_rfl) (by kernel_rfl) (by kernel_rfl) (Or.inl ⟨?hw12n13q142, ?hy12n13q142⟩) HS.out ?rest12n13q142
              case hi12n13q142 => (simp only [List.getElem?_toArray, List.getElem?_cons_succ, List.getElem?_cons_zero]; rfl)
              case hw12n13q142 => rfl
              case hy12n13q142 => (intro w' hw'; go_simp; try with_reducible rfl)
              try simp only [Act.put, List.setIfInBounds_toArray, List.set_cons_zero, List.set_cons_succ]
              refine' wpAnyJ_step (i := 13) (o := _) (by kernel_rfl) ?ho13n14q142 (fun KK hK => ?step13n14q142)
              case ho13n14q142 => (simp only [List.getElem?_toArray, List.getElem?_cons_succ, List.getElem?_cons_zero]; rfl)
              obtain ⟨s0, s1, s2, s3, s4, s5⟩ := six_cells HUZ.out
              have sf : ∀ o, ud.frozen? ⟨g, o, none⟩ = false := (fun o => by simp [World.frozen?, HUZ.out])
              go_simp
              have hs2 : Sets (fun c => c = g) ud (((ud.setCell ⟨g, 0, none⟩ (.int .i64 8)).setCell ⟨g, 4, none⟩ (.int .u64 K.ver)).setCell ⟨g, 5, none⟩ (.slice Ai l1 ci)) := ((((Sets.refl (S := fun c => c = g) ud).set (g := g) (fun _ => rfl) 0 (.int .i64 8)).set (g := g) (fun _ => rfl) 4 (.int .u64 K.ver)).set (g := g) (fun _ => rfl) 5 (.slice Ai l1 ci))
              refine hK.out _ _ hs2 ?_
              clear hK KK s0 s1 s2 s3 s4 s5 sf HS
              have HS := hide hs2
              clear hs2
              try simp only [Act.put, List.setIfInBounds_toArray, List.set_cons_zero, List.set_cons_succ]
              refine wpAnyJ_done (by kernel_rfl) ?_ _
              refine NoPanic.normal ?_
              clear HS HCU
              go_wp2_with fail
              have hz0 : ud.heap[g]? = some (.cells [.int .i64 0, .int .i64 K.at_, .int .i64 k, .int .u64 K.id, .int .u64 0, .slice none 0 0].toArray 30 (0, 0)) := HUZ.out
              have hz1 := set_of_list (o := 5) (set_of_list (o := 4) (set_of_list (o := 0) hz0 (.int .i64 8)) (.int .u64 K.ver)) (.slice Ai l1 ci)
              have hs := ((Sets.refl (S := fun c => c = g) ud).set (g := g) (fun _ => rfl) 0 (.int .i64 8)).set (g := g) (fun _ => rfl) 4 (.int .u64 K.ver) |>.set (g := g) (fun _ => rfl) 5 (.slice Ai l1 ci)
              have HZ1 : Hid (∀ l, l = l1 → ((((ud.setCell ⟨g, 0, none⟩ (.int .i64 8)).setCell ⟨g, 4, none⟩ (.int .u64 K.ver)).setCell ⟨g, 5, none⟩ (.slice Ai l1 ci))).heap[g]? = some (.cells #[.int .i64 8, .int .i64 K.at_, .int .i64 k, .int .u64 K.id, .int .u64 K.ver, .slice Ai l ci] 30 (0, 0))) := hide (fun l h => by rw [h]; exact hz1)
              have HB1 : Hid (Below wr.heap.size wr ((((ud.setCell ⟨g, 0, none⟩ (.int .i64 8)).setCell ⟨g, 4, none⟩ (.int .u64 K.ver)).setCell ⟨g, 5, none⟩ (.slice Ai l1 ci)))) := hide (Sets.below HUB.out hs (fun c hc => by rw [hc, HGE.out]; exact Nat.le_refl _) HUB.out.size)
              clear hz0 hz1 hs
              go_meet
              exact ⟨rfl, ⟨8, K.at_, (k : Int), K.id, K.ver, Ai, ci, K.L⟩, by rw [HMK.out]; rfl, ⟨HIT.out, fun a ha => (HFAR.out a.block (by subst ha; rfl)).1⟩, HZ1.out _ HL1.out, HB1.out⟩
            · rw [hc2] at hck
              clear hc2
              go_upto_region 14 with fail
              obtain ⟨ud, hud⟩ : ∃ ud, wm.drew = ud := ⟨_, rfl⟩
              have HUD := hide hud
              have HUB : Hid (Below wr.heap.size wr ud) := hide (by rw [← hud]; exact HBM.out.drew)
              have HUW := hide (below_step HB.out HUB.out)
              have HUZ : Hid (ud.heap[g]? = some (.cells #[.int .i64 0, .int .i64 K.at_, .int .i64 k, .int .u64 K.id, .int .u64 0, .slice none 0 0] 30 (0, 0))) := hide (by rw [← hud]; exact HZM.out)
              have HCU : Hid (∀ W : World, Sets (fun c => c = g) ud W → CallC W p cb K Ai ci) := hide (fun W hW => HCL.out W (Sets.below HUW.out hW (fun c hc => by rw [hc, ← HGE.out]; exact HB.out.size) HUW.out.size))
              clear hud c8 c9 c10 c3 c11 hck z0 z1 z2 z3 z4 z5 hf0 hf4 hf5 HCL
              refine j_startS [] (S := fun W => Sets (fun c => c = g) ud W) (by kernel_rfl) ?_
              rw [HUD.out]
              have HS : Hid (Sets (fun c => c = g) ud ud) := hide (Sets.refl _)
              refine' wpAnyJ_take (i := 0) (v := _) [] ?hi0n1q143 (by kernel_rfl) (by kernel_rfl) (by kernel_rfl) (by kernel_rfl) (by kernel_rfl) (Or.inl ⟨?hw0n1q143, ?hy0n1q143⟩) HS.out ?rest0n1q143
              case hi0n1q143 => (simp only [List.getElem?_toArray, List.getElem?_cons_succ, List.getElem?_cons_zero]; rfl)
              case hw0n1q143 => rfl
              case hy0n1q143 => (intro w' hw'; go_simp; try with_reducible rfl)
              try simp only [Act.put, List.setIfInBounds_toArray, List.set_cons_zero, List.set_cons_succ]
              refine' wpAnyJ_take (i := 1) (v := _) [] ?hi1n2q143 (by kernel_rfl) (by kernel_rfl) (by kernel_rfl) (by kernel_rfl) (by kernel_rfl) (Or.inl ⟨?hw1n2q143, ?hy1n2q143⟩) HS.out ?rest1n2q143
              case hi1n2q143 => (simp only [List.getElem?_toArray, List.getElem?_cons_succ, List.getElem?_cons_zero]; rfl)
              case hw1n2q143 => rfl
              case hy1n2q143 => (intro w' hw'; go_simp; try with_reducible rfl)
              try simp only [Act.put, List.setIfInBounds_toArray, List.set_cons_zero, List.set_cons_succ]
              refine' wpAnyJ_take (i := 2) (v := _) [] ?hi2n3q143 (by kernel_rfl) (by kernel_rfl) (by kernel_rfl) (by kernel_rfl) (by kernel_rfl) (Or.inl ⟨?hw2n3q143, ?hy2n3q143⟩) HS.out ?rest2n3q143
              case hi2n3q143 => (simp only [List.getElem?_toArray, List.getElem?_cons_succ, List.getElem?_cons_zero]; rfl)
              case hw2n3q143 => rfl
              case hy2n3q143 => (intro w' hw'; go_simp; try with_reducible rfl)
              try simp only [Act.put, List.setIfInBounds_toArray, List.set_cons_zero, List.set_cons_succ]
              refine' wpAnyJ_take (i := 3) (v := _) [] ?hi3n4q143 (by kernel_rfl) (by kernel_rfl) (by kernel_rfl) (by kernel_rfl) (by kernel_rfl) (Or.inl ⟨?hw3n4q143, ?hy3n4q143⟩) HS.out ?rest3n4q143
              case hi3n4q143 => (simp only [List.getElem?_toArray, List.getElem?_cons_succ, List.getElem?_cons_zero]; rfl)
              case hw3n4q143 => rfl
              case hy3n4q143 => (intro w' hw'; have q8 := (HCU.out _ hw').c8; go_simp; try with_reducible rfl)
              try simp only [Act.put, List.setIfInBounds_toArray, List.set_cons_zero, List.set_cons_succ]
              refine' wpAnyJ_take (i := 4) (v := _) [] ?hi4n5q143 (by kernel_rfl) (by kernel_rfl) (by kernel_rfl) (by kernel_rfl) (by kernel_rfl) (Or.inl ⟨?hw4n5q143, ?hy4n5q143⟩) HS.out ?rest4n5q143
              case hi4n5q143 => (simp only [List.getElem?_toArray, List.getElem?_cons_succ, List.getElem?_cons_zero]; rfl)
              case hw4n5q143 => rfl
              case hy4n5q143 => (intro w' hw'; go_simp; try with_reducible rfl)
              try simp only [Act.put, List.setIfInBounds_toArray, List.set_cons_zero, List.set_cons_succ]
              refine' wpAnyJ_take (i := 5) (v := _) [] ?hi5n6q143 (by kernel_rfl) (by kernel_rfl) (by kernel_rfl) (by kernel_rfl) (by kernel_rfl) (Or.inl ⟨?hw5n6q143, ?hy5n6q143⟩) HS.out ?rest5n6q143
              case hi5n6q143 => (simp only [List.getElem?_toArray, List.getElem?_cons_succ, List.getElem?_cons_zero]; rfl)
              case hw5n6q143 => rfl
              case hy5n6q143 => (intro w' hw'; go_simp; try with_reducible rfl)
              try simp only [Act.put, List.setIfInBounds_toArray, List.set_cons_zero, List.set_cons_succ]
              refine' wpAnyJ_take (i := 6) (v := _) [] ?hi6n7q143 (by kernel_rfl) (by kernel_rfl) (by kernel_rfl) (by kernel_rfl) (by kernel_rfl) (Or.inl ⟨?hw6n7q143, ?hy6n7q143⟩) HS.out ?rest6n7q143
              case hi6n7q143 => (simp only [List.getElem?_toArray, List.getElem?_cons_succ, List.getElem?_cons_zero]; rfl)
              case hw6n7q143 => rfl
              case hy6n7q143 => (intro w' hw'; go_simp; try with_reducible rfl)
              try simp only [Act.put, List.setIfInBounds_toArray, List.set_cons_zero, List.set_cons_succ]
              refine' wpAnyJ_take (i := 7) (v := _) [] ?hi7n8q143 (by kernel_rfl) (by kernel_rfl) (by kernel_rfl) (by kernel_rfl) (by kernel_rfl) (Or.inl ⟨?hw7n8q143, ?hy7n8q143⟩) HS.out ?rest7n8q143
              case hi7n8q143 => (simp only [List.getElem?_toArray, List.getElem?_cons_succ, List.getElem?_cons_zero]; rfl)
              case hw7n8q143 => rfl
              case hy7n8q143 => (intro w' hw'; have q11 := (HCU.out _ hw').c11; rw [HL1.out] at q11; go_simp; try with_reducible rfl)
              try simp only [Act.put, List.setIfInBounds_toArray, List.set_cons_zero, List.set_cons_succ]
              refine' wpAnyJ_take (i := 8) (v := _) [] ?hi8n9q143 (by kernel_rfl) (by kernel_rfl) (by kernel_rfl) (by kernel_rfl) (by kernel_rfl) (Or.inl ⟨?hw8n9q143, ?hy8n9q143⟩) HS.out ?rest8n9q143
              case hi8n9q143 => (simp only [List.getElem?_toArray, List.getElem?_cons_succ, List.getElem?_cons_zero]; rfl)
              case hw8n9q143 => rfl
              case hy8n9q143 => (intro w' hw'; go_simp; try with_reducible rfl)
              try simp only [Act.put, List.setIfInBounds_toArray, List.set_cons_zero, List.set_cons_succ]
              refine' wpAnyJ_step (i := 9) (o := _) (by kernel_rfl) ?ho9n10q143 (fun KK hK => ?step9n10q143)
              case ho9n10q143 => (simp only [List.getElem?_toArray, List.getElem?_cons_succ, List.getElem?_cons_zero]; rfl)
              obtain ⟨s0, s1, s2, s3, s4, s5⟩ := six_cells HUZ.out
              have sf : ∀ o, ud.frozen? ⟨g, o, none⟩ = false := (fun o => by simp [World.frozen?, HUZ.out])
              go_simp
              have hs0 : Sets (fun c => c = g) ud (ud.setCell ⟨g, 0, none⟩ (.int .i64 8)) := ((Sets.refl (S := fun c => c = g) ud).set (g := g) (fun _ => rfl) 0 (.int .i64 8))
              refine hK.out _ _ hs0 ?_
              clear hK KK s0 s1 s2 s3 s4 s5 sf HS
              have HS := hide hs0
              clear hs0
              try simp only [Act.put, List.setIfInBounds_toArray, List.set_cons_zero, List.set_cons_succ]
              refine' wpAnyJ_take (i := 10) (v := _) [] ?hi10n11q143 (by kernel_rfl) (by kernel_rfl) (by kernel_rfl) (by kernel_rfl) (by kernel_rfl) (Or.inl ⟨?hw10n11q143, ?hy10n11q143⟩) HS.out ?rest10n11q143
              case hi10n11q143 => (simp only [List.getElem?_toArray, List.getElem?_cons_succ, List.getElem?_cons_zero]; rfl)
              case hw10n11q143 => rfl
              case hy10n11q143 => (intro w' hw'; go_simp; try with_reducible rfl)
              try simp only [Act.put, List.setIfInBounds_toArray, List.set_cons_zero, List.set_cons_succ]
              refine' wpAnyJ_step (i := 11) (o := _) (by kernel_rfl) ?ho11n12q143 (fun KK hK => ?step11n12q143)
              case ho11n12q143 => (simp only [List.getElem?_toArray, List.getElem?_cons_succ, List.getElem?_cons_zero]; rfl)
              obtain ⟨s0, s1, s2, s3, s4, s5⟩ := six_cells HUZ.out
              have sf : ∀ o, ud.frozen? ⟨g, o, none⟩ = false := (fun o => by simp [World.frozen?, HUZ.out])
              go_simp
              have hs1 : Sets (fun c => c = g) ud ((ud.setCell ⟨g, 0, none⟩ (.int .i64 8)).setCell ⟨g, 4, none⟩ (.int .u64 K.ver)) := (((Sets.refl (S := fun c => c = g) ud).set (g := g) (fun _ => rfl) 0 (.int .i64 8)).set (g := g) (fun _ => rfl) 4 (.int .u64 K.ver))
              refine hK.out _ _ hs1 ?_
              clear hK KK s0 s1 s2 s3 s4 s5 sf HS
              have HS := hide hs1
              clear hs1
              try simp only [Act.put, List.setIfInBounds_toArray, List.set_cons_zero, List.set_cons_succ]
              refine' wpAnyJ_take (i := 12) (v := _) [] ?hi12n13q143 (by kernel_rfl) (by kernel_rfl) (by kernel_rfl) (by kernel_rfl) (by kernel_rfl) (Or.inl ⟨?hw12n13q143, ?hy12n13q143⟩) HS.out ?rest12n13q143
              case hi12n13q143 => (simp only [List.getElem?_toArray, List.getElem?_cons_succ, List.getElem?_cons_zero]; rfl)
              case hw12n13q143 => rfl
              case hy12n13q143 => (intro w' hw'; go_simp; try with_reducible rfl)
              try simp only [Act.put, List.setIfInBounds_toArray, List.set_cons_zero, List.set_cons_succ]
              refine' wpAnyJ_step (i := 13) (o := _) (by kernel_rfl) ?ho13n14q143 (fun KK hK => ?step13n14q143)
              case ho13n14q143 => (simp only [List.getElem?_toArray, List.getElem?_cons_succ, List.getElem?_cons_zero]; rfl)
              obtain ⟨s0, s1, s2, s3, s4, s5⟩ := six_cells HUZ.out
              have sf : ∀ o, ud.frozen? ⟨g, o, none⟩ = false := (fun o => by simp [World.frozen?, HUZ.out])
              go_simp
              have hs2 : Sets (fun c => c = g) ud (((ud.setCell ⟨g, 0, none⟩ (.int .i64 8)).setCell ⟨g, 4, none⟩ (.int .u64 K.ver)).setCell ⟨g, 5, none⟩ (.slice Ai l1 ci)) := ((((Sets.refl (S := fun c => c = g) ud).set (g := g) (fun _ => rfl) 0 (.int .i64 8)).set (g := g) (fun _ => rfl) 4 (.int .u64 K.ver)).set (g := g) (fun _ => rfl) 5 (.slice Ai l1 ci))
              refine hK.out _ _ hs2 ?_
              clear hK KK s0 s1 s2 s3 s4 s5 sf HS
              have HS := hide hs2
              clear hs2
              try simp only [Act.put, List.setIfInBounds_toArray, List.set_cons_zero, List.set_cons_succ]
              refine wpAnyJ_done (by kernel_rfl) ?_ _
              refine NoPanic.normal ?_
              clear HS HCU
              go_wp2_with fail
              have hz0 : ud.heap[g]? = some (.cells [.int .i64 0, .int .i64 K.at_, .int .i64 k, .int .u64 K.id, .int .u64 0, .slice none 0 0].toArray 30 (0, 0)) := HUZ.out
              have hz1 := set_of_list (o := 5) (set_of_list (o := 4) (set_of_list (o := 0) hz0 (.int .i64 8)) (.int .u64 K.ver)) (.slice Ai l1 ci)
              have hs := ((Sets.refl (S := fun c => c = g) ud).set (g := g) (fun _ => rfl) 0 (.int .i64 8)).set (g := g) (fun _ => rfl) 4 (.int .u64 K.ver) |>.set (g := g) (fun _ => rfl) 5 (.slice Ai l1 ci)
              have HZ1 : Hid (∀ l, l = l1 → ((((ud.setCell ⟨g, 0, none⟩ (.int .i64 8)).setCell ⟨g, 4, none⟩ (.int .u64 K.ver)).setCell ⟨g, 5, none⟩ (.slice Ai l1 ci))).heap[g]? = some (.cells #[.int .i64 8, .int .i64 K.at_, .int .i64 k, .int .u64 K.id, .int .u64 K.ver, .slice Ai l ci] 30 (0, 0))) := hide (fun l h => by rw [h]; exact hz1)
              have HB1 : Hid (Below wr.heap.size wr ((((ud.setCell ⟨g, 0, none⟩ (.int .i64 8)).setCell ⟨g, 4, none⟩ (.int .u64 K.ver)).setCell ⟨g, 5, none⟩ (.slice Ai l1 ci)))) := hide (Sets.below HUB.out hs (fun c hc => by rw [hc, HGE.out]; exact Nat.le_refl _) HUB.out.size)
              clear hz0 hz1 hs
              go_meet
              exact ⟨rfl, ⟨8, K.at_, (k : Int), K.id, K.ver, Ai, ci, K.L⟩, by rw [HMK.out]; rfl, ⟨HIT.out, fun a ha => (HFAR.out a.block (by subst ha; rfl)).1⟩, HZ1.out _ HL1.out, HB1.out⟩
        case rest =>
          obtain ⟨rfl, x, hx1, hx2, hx3, hx4⟩ := hcut
          have HX1 := hide hx1
          have HX2 := hide hx2
          have HX3 := hide hx3
          have HX4 := hide hx4
          obtain ⟨z0, z1, z2, z3, z4, z5⟩ := six_cells hx3
          have hal := below_alloc (Below.refl wc.heap.size wc) (.cells #[.int .i64 x.k, .int .i64 x.f, .int .i64 x.t, .int .u64 x.id, .int .u64 x.n, .slice x.A x.L.length x.c] 30)
          have HXX : Hid (RowAt Mg.cells 6 (wc.alloc (.cells #[.int .i64 x.k, .int .i64 x.f, .int .i64 x.t, .int .u64 x.id, .int .u64 x.n, .slice x.A x.L.length x.c] 30)) (some ⟨wc.heap.size, 0, none⟩) [x]) := hide (RowAt.new_one (cells := Mg.cells) (sz := 6) (y := x) (heap_alloc_new wc (.cells #[.int .i64 x.k, .int .i64 x.f, .int .i64 x.t, .int .u64 x.id, .int .u64 x.n, .slice x.A x.L.length x.c] 30)))
          have HBU := hide (below_step hx4 hal)
          have HOU := hide (OwnL.below HO.out HBU.out)
          have HBWW := hide (below_step HB.out HBU.out)
          clear hx1 hx2 hx3 hx4 hal hcase hck hpr hgr hne1 hne2 c3 c8 c9 c10 c11
          go_wp2_with (at_builtin; refine wpList_app_msg rfl (.tmp 110) (.tmp 112) rfl rfl w.heap.size _ N rfl HOU.out (some ⟨wc.heap.size, 0, none⟩) 1 1 [x] rfl rfl HXX.out (by omega) HBWW.out.size ?_; intro v6 w6 ho6 hg6 hm6; have HO6 := hide ho6; have HB6 := hide (HBWW.out.grown hg6 HBWW.out.size (fun q hq => (OwnL.lt HOU.out q hq).1)); clear ho6 hg6 hm6)
          have HS6 : Hid ((N ++ [x]).map Mg.bare = toK K each (k + 1)) := hide (by rw [HSY.out, List.map_append, HN.out, List.map_cons, HX1.out]; rfl)
          go_wp2_with fail
          go_roundw
          case rel => exact ⟨k + 1, N ++ [x], by go_num, by omega, HO6.out, (fun y hy => by
            rcases List.mem_append.1 hy with h | h
            · exact HRD.out y h
            · rw [List.mem_singleton.1 h]; exact HX2.out), HS6.out, HB6.out⟩
          case measure => (simp [intOf] <;> omega)
    · obtain rfl : k = n := by omega
      have hkI : ¬ (k : Int) < (k : Int) := by omega
      obtain ⟨A, c, rfl, hr1, hge1, h1, h2⟩ := OwnL.row Mg.cells_len HO.out
      have HST : Hid (Stay base wr A N) := hide (stay_of hr1 (fun a ha => by
        have h3 := (hge1 a.block a.off a.spot (by rw [ha])).1
        have h4 := HPL.out.1
        have h5 := HBP.out
        omega) (fun x hx => ⟨(HRD.out x hx).1.below HB.out, (HRD.out x hx).2⟩))
      clear hr1 hge1 cc
      go_wp2_with fail
      go_ret
      exact ⟨A, c, N, rfl, HST.out, by rw [HNN.out]; exact HN.out, HB.out⟩
end Go.Proofs.Ytikecafblampeaa
