/- The function value send of clepsydralaw21.NetPlays: one message more in the list that the law keeps: a contract. Conditions: its four variables as they lie. -/
import Derived.Test.YtihhepojhoaacaaPetL
namespace Go.Proofs.Ytihhepojhoaacaa
set_option linter.unusedVariables false
set_option linter.unusedSimpArgs false
open Go.ChangeShapes Go.WideShapes Go.ChangeAt Go.RowKit

theorem rowm_grown {w w' : World} {row : Option Nat} {b : Nat} {M : List Mg} (h : RowAt Mg.cells 6 w (some ⟨b, 0, none⟩) M) (hg : w.grownBy w' row) (hn : row ≠ some b) : RowAt Mg.cells 6 w' (some ⟨b, 0, none⟩) M := fun hM => by
  obtain ⟨b', off, e, hlt, hc⟩ := h hM
  obtain ⟨rfl, rfl⟩ : b = b' ∧ 0 = off := by injection e with h; injection h; exact ⟨by assumption, by assumption⟩
  exact ⟨b, 0, rfl, Nat.lt_of_lt_of_le hlt hg.size, fun i hi j u hu => (World.cell?_of_block (hg.block b hlt (fun e => hn e.symm))).trans (hc i hi j u hu)⟩
theorem nem_moved {v v' : Value} {u : World} {b : Nat} (hm : v'.ownBlock = v.ownBlock ∨ v'.ownBlock = some u.heap.size) (hn : v.ownBlock ≠ some b) (hb : b < u.heap.size) : v'.ownBlock ≠ some b := fun e => by
  rcases hm with h | h
  · exact hn (h ▸ e)
  · rw [h] at e
    have := Option.some.inj e
    omega
theorem row_drop1 {w : World} {b : Nat} {M : List Mg} (h : RowAt Mg.cells 6 w (some ⟨b, 0, none⟩) M) : RowAt Mg.cells 6 w (some ⟨b, 6, none⟩) (M.drop 1) := fun hn => by
  cases M with
  | nil => exact absurd rfl hn
  | cons a M =>
    obtain ⟨b', off, e, hlt, hc⟩ := h (by simp)
    obtain ⟨rfl, rfl⟩ : b = b' ∧ 0 = off := by injection e with h; injection h; exact ⟨by assumption, by assumption⟩
    refine ⟨b, 6, rfl, hlt, fun i hi j u hu => ?_⟩
    have h1 := hc (i + 1) (by simpa using hi) j u (by simpa using hu)
    rw [show 0 + (i + 1) * 6 + j = 6 + i * 6 + j from by omega] at h1
    exact h1
set_option maxRecDepth 100000 in
set_option maxHeartbeats 6400000 in
theorem sendc_any (x : Mg) (c6 c7 c8 c9 : Nat) (h78 : ¬ c7 = c8) (h79 : ¬ c7 = c9) (h89 : ¬ c8 = c9) (h67 : ¬ c6 = c7) (h68 : ¬ c6 = c8) (h69 : ¬ c6 = c9) (m : Nat) (A : Option Addr) (c : Nat) (M : List Mg) (l s : Nat) (w : World)
    (b6 : w.heap[c6]? = some (.cells #[.int .i64 m] 3 (0, 0))) (b7 : w.heap[c7]? = some (.cells #[.slice A M.length c] 41 (0, 0))) (b8 : w.heap[c8]? = some (.cells #[.int .i64 l] 3 (0, 0))) (b9 : w.heap[c9]? = some (.cells #[.int .i64 s] 3 (0, 0)))
    (hR : RowAt Mg.cells 6 w A M) (hM : M.length ≤ 100000) (hl : l ≤ 1000000) (hs : s ≤ 1000000) :
    Calls Try.prog 17 #[x.val, .pointer (some ⟨c9, 0, none⟩), .pointer (some ⟨c7, 0, none⟩), .pointer (some ⟨c6, 0, none⟩), .pointer (some ⟨c8, 0, none⟩)] w fun e w' => e = .returned (.tuple #[]) ∧ ∃ (A' : Option Addr) (c' : Nat) (N : List Mg) (q : Nat),
      w'.heap[c7]? = some (.cells #[.slice A' N.length c'] 41 (0, 0)) ∧ w'.heap[c8]? = some (.cells #[.int .i64 ((l + q : Nat) : Int)] 3 (0, 0)) ∧ w'.heap[c9]? = some (.cells #[.int .i64 ((s + 1 : Nat) : Int)] 3 (0, 0)) ∧
      RowAt Mg.cells 6 w' A' N ∧ N.length ≤ c' ∧ c' ≤ maxLen ∧ N = sendC m M x ∧ (q : Int) = sendL m M ∧ (∀ a, A' = some a → w.heap.size ≤ a.block ∧ ∀ o, w'.frozen? ⟨a.block, o, none⟩ = false) ∧ Sets (fun k => k = c7 ∨ k = c8 ∨ k = c9) w w' := by
  have hba := below_alloc (Below.refl w.heap.size w) (.cells #[.int .i64 x.k, .int .i64 x.f, .int .i64 x.t, .int .u64 x.id, .int .u64 x.n, .slice x.A x.L.length x.c] 28)
  have hg5 := heap_alloc_new w (.cells #[.int .i64 x.k, .int .i64 x.f, .int .i64 x.t, .int .u64 x.id, .int .u64 x.n, .slice x.A x.L.length x.c] 28)
  have lt7 := (Array.getElem?_eq_some_iff.1 b7).1
  have lt8 := (Array.getElem?_eq_some_iff.1 b8).1
  have lt9 := (Array.getElem?_eq_some_iff.1 b9).1
  have lt6 := (Array.getElem?_eq_some_iff.1 b6).1
  obtain ⟨w1, hw1⟩ : ∃ w1, w.alloc (.cells #[.int .i64 x.k, .int .i64 x.f, .int .i64 x.t, .int .u64 x.id, .int .u64 x.n, .slice x.A x.L.length x.c] 28) = w1 := ⟨_, rfl⟩
  rw [hw1] at hba hg5
  have a6 := (hba.block _ lt6).trans b6
  have a7 := (hba.block _ lt7).trans b7
  have a8 := (hba.block _ lt8).trans b8
  have a9 := (hba.block _ lt9).trans b9
  have q9 := (cell_of_row w1 c9 0 _ _ _ a9).trans rfl
  have z9 : w1.frozen? ⟨c9, 0, none⟩ = false := by simp [World.frozen?, a9]
  have hsw : IntKind.i64.wrap ((s : Int) + 1) = (s : Int) + 1 := by rw [IntKind.wrap_i64]; omega
  have hst : Sets (fun k => k = c9) w1 (w1.setCell ⟨c9, 0, none⟩ (.int .i64 ((s : Int) + 1))) := (Sets.refl (S := fun k => k = c9) w1).set (g := c9) (fun _ => rfl) 0 _
  have d6 := (hst.block c6 (Nat.lt_of_lt_of_le lt6 hba.size) (fun e => h69 e)).trans a6
  have d7 := (hst.block c7 (Nat.lt_of_lt_of_le lt7 hba.size) (fun e => h79 e)).trans a7
  have d8 := (hst.block c8 (Nat.lt_of_lt_of_le lt8 hba.size) (fun e => h89 e)).trans a8
  have d9 : (w1.setCell ⟨c9, 0, none⟩ (.int .i64 ((s : Int) + 1))).heap[c9]? = some (.cells #[.int .i64 ((s + 1 : Nat) : Int)] 3 (0, 0)) := by
    have e : ((s + 1 : Nat) : Int) = (s : Int) + 1 := by omega
    rw [e]
    simp [World.setCell, Array.getElem?_modify, a9]
  have dg := (hst.block w.heap.size (Array.getElem?_eq_some_iff.1 hg5).1 (fun e => by omega)).trans hg5
  have dR := (hR.below hba).sets hst (fun a ha hn e => by
    obtain ⟨b', off, e', hlt, hcc⟩ := hR hn
    rw [ha] at e'
    obtain rfl := Option.some.inj e'
    have h0 := hcc 0 (List.length_pos_iff.2 hn) 0 _ rfl
    have h1 := hcc 0 (List.length_pos_iff.2 hn) 1 _ rfl
    simp only [Nat.zero_mul, Nat.add_zero] at h0 h1
    subst e
    rw [cell_of_row w _ _ _ _ _ b9] at h0 h1
    simp at h0 h1)
  obtain ⟨wr, hwr⟩ : ∃ wr, w1.setCell ⟨c9, 0, none⟩ (.int .i64 ((s : Int) + 1)) = wr := ⟨_, rfl⟩
  rw [hwr] at hst d6 d7 d8 d9 dg dR
  obtain ⟨n, hn⟩ : ∃ n, M.length = n := ⟨_, rfl⟩
  have HM := hide hn
  rw [hn] at d7 hM
  obtain ⟨x0, x1, x2, x3, x4, x5⟩ := six_cells dg
  have q7 := (cell_of_row wr c7 0 _ _ _ d7).trans rfl
  have z7 : wr.frozen? ⟨c7, 0, none⟩ = false := by simp [World.frozen?, d7]
  have lg5 := (Array.getElem?_eq_some_iff.1 dg).1
  have l7 := (Array.getElem?_eq_some_iff.1 d7).1
  have HC0 : Hid (∀ W : World, Below wr.heap.size wr W → (W.cell? ⟨w.heap.size, 0, none⟩ = some (.int .i64 x.k) ∧ W.cell? ⟨w.heap.size, 1, none⟩ = some (.int .i64 x.f) ∧ W.cell? ⟨w.heap.size, 2, none⟩ = some (.int .i64 x.t) ∧ W.cell? ⟨w.heap.size, 3, none⟩ = some (.int .u64 x.id) ∧ W.cell? ⟨w.heap.size, 4, none⟩ = some (.int .u64 x.n) ∧ W.cell? ⟨w.heap.size, 5, none⟩ = some (.slice x.A x.L.length x.c)) ∧ W.cell? ⟨c7, 0, none⟩ = some (.slice A n c) ∧ W.frozen? ⟨c7, 0, none⟩ = false) := hide (fun W hW =>
    ⟨⟨keep_cell hW x0 lg5, keep_cell hW x1 lg5, keep_cell hW x2 lg5, keep_cell hW x3 lg5, keep_cell hW x4 lg5, keep_cell hW x5 lg5⟩, keep_cell hW q7 l7, (hW.frozen (p := ⟨c7, 0, none⟩) l7).trans z7⟩)
  have HR0 := hide dR
  have HD6 := hide d6
  have HD7 := hide d7
  have HD8 := hide d8
  have HD9 := hide d9
  have HW1 := hide hw1
  have HWR := hide hwr
  have HST : Hid (Sets (fun k => k = c7 ∨ k = c8 ∨ k = c9) w wr) := hide ((Sets.of (S := fun k => k = c7 ∨ k = c8 ∨ k = c9) hba).trans hst (fun _ _ e => .inr (.inr e)))
  clear hba hg5 a6 a7 a8 a9 hst d6 d7 d8 d9 dg dR hn x0 x1 x2 x3 x4 x5 q7 z7 hR b6 b7 b8 b9 hw1 hwr
  go_enter Try.func17, Try.ntmps17
  go_upto_region 1 with fail
  try rw [HW1.out]
  go_upto_region 2 with fail
  try rw [HWR.out]
  go_cut [] (fun W => ∃ (u : World) (A' : Option Addr) (c' base : Nat), OwnL Mg.cells 6 28 base u (.slice A' (n + 1) c') (M ++ [x]) ∧ n + 1 ≤ c' ∧ c' ≤ maxLen ∧ Below wr.heap.size wr u ∧ wr.heap.size ≤ base ∧ True ∧ W = u.setCell ⟨c7, 0, none⟩ (.slice A' (n + 1) c'))
  case first =>
    refine j_start [6] (by kernel_rfl) ?_
    obtain ⟨ud, hud⟩ : ∃ ud, wr.drew = ud := ⟨_, rfl⟩
    have HUD : Hid (Below wr.heap.size wr ud) := hide (by rw [← hud]; exact (Below.refl _ _).drew)
    have HC : Hid (∀ W : World, Below ud.heap.size ud W → (W.cell? ⟨w.heap.size, 0, none⟩ = some (.int .i64 x.k) ∧ W.cell? ⟨w.heap.size, 1, none⟩ = some (.int .i64 x.f) ∧ W.cell? ⟨w.heap.size, 2, none⟩ = some (.int .i64 x.t) ∧ W.cell? ⟨w.heap.size, 3, none⟩ = some (.int .u64 x.id) ∧ W.cell? ⟨w.heap.size, 4, none⟩ = some (.int .u64 x.n) ∧ W.cell? ⟨w.heap.size, 5, none⟩ = some (.slice x.A x.L.length x.c)) ∧ W.cell? ⟨c7, 0, none⟩ = some (.slice A n c) ∧ W.frozen? ⟨c7, 0, none⟩ = false) := hide (fun W hW => HC0.out W (below_step HUD.out hW))
    have HRW : Hid (∀ W : World, Below ud.heap.size ud W → RowAt Mg.cells 6 W A M) := hide (fun W hW => HR0.out.below (below_step HUD.out hW))
    have HS : Hid (Below ud.heap.size ud ud) := hide (Below.refl _ _)
    rw [hud]
    clear hud HC0 HR0
    refine' wpAnyJ_take (i := 1) (v := _) [2, 5, 6] ?hi1n1 (by kernel_rfl) (by kernel_rfl) (by kernel_rfl) (by kernel_rfl) (by kernel_rfl) (Or.inl ⟨?hw1n1, ?hy1n1⟩) HS.out ?rest1n1
    case hi1n1 => (simp only [List.getElem?_toArray, List.getElem?_cons_succ, List.getElem?_cons_zero]; rfl)
    case hw1n1 => rfl
    case hy1n1 => (intro w' hw'; have h0 := (HC.out _ hw').2.1; go_simp; try with_reducible rfl)
    try simp only [Act.put, List.setIfInBounds_toArray, List.set_cons_zero, List.set_cons_succ]
    refine' wpAnyJ_take (i := 3) (v := _) [4, 5, 6] ?hi3n2 (by kernel_rfl) (by kernel_rfl) (by kernel_rfl) (by kernel_rfl) (by kernel_rfl) (Or.inl ⟨?hw3n2, ?hy3n2⟩) HS.out ?rest3n2
    case hi3n2 => (simp only [List.getElem?_toArray, List.getElem?_cons_succ, List.getElem?_cons_zero]; rfl)
    case hw3n2 => rfl
    case hy3n2 => (intro w' hw'; obtain ⟨⟨i0, i1, i2, i3, i4, i5⟩, _⟩ := HC.out _ hw'; go_simp; try with_reducible rfl)
    try simp only [Act.put, List.setIfInBounds_toArray, List.set_cons_zero, List.set_cons_succ]
    refine' wpAnyJ_step2 (i := 0) (j := 4) (oi := _) (oj := _) (by kernel_rfl) ?han3 ?hbn3 (fun K hK => ?san3) (fun K hK => ?sbn3)
    case han3 => (simp only [List.getElem?_toArray, List.getElem?_cons_succ, List.getElem?_cons_zero]; rfl)
    case hbn3 => (simp only [List.getElem?_toArray, List.getElem?_cons_succ, List.getElem?_cons_zero]; rfl)
    case san3 =>
      go_simp
      have hal := below_alloc (Below.refl (ud).heap.size (ud)) (.cells #[] 28)
      have HE := hide (own_emptyE Mg.cells 6 28 ud.heap.size (ud) HS.out.size)
      have HS := hide (below_step HS.out hal)
      obtain ⟨ve, hve⟩ : ∃ ve, Value.slice (some ⟨(ud).heap.size, 0, none⟩) 0 0 = ve := ⟨_, rfl⟩
      rw [hve] at HE
      try rw [hve]
      obtain ⟨u0, hu0⟩ : ∃ u0, (ud).alloc (.cells #[] 28) = u0 := ⟨_, rfl⟩
      rw [hu0] at HE HS
      try rw [hu0]
      clear hal hve hu0
      refine hK.out _ _ HS.out ?_
      clear hK K
      try simp only [Act.put, List.setIfInBounds_toArray, List.set_cons_zero, List.set_cons_succ]
      refine' wpAnyJ_step2 (i := 2) (j := 4) (oi := _) (oj := _) (by kernel_rfl) ?han4 ?hbn4 (fun K hK => ?san4) (fun K hK => ?sbn4)
      case han4 => (simp only [List.getElem?_toArray, List.getElem?_cons_succ, List.getElem?_cons_zero]; rfl)
      case hbn4 => (simp only [List.getElem?_toArray, List.getElem?_cons_succ, List.getElem?_cons_zero]; rfl)
      case san4 =>
        refine step_app_msg rfl (.tmp 8) (.tmp 9) rfl rfl ud.heap.size ve [] rfl HE.out A c n M HM.out rfl (HRW.out _ HS.out) (by simp only [List.length_nil]; omega) HS.out.size ?_
        intro v2 u02 ho2 hg2 hm2
        have HS2 := hide (HS.out.grown hg2 HS.out.size (fun q hq => (OwnL.lt HE.out q hq).1))
        have HE := hide ho2
        have HS := HS2
        rw [List.nil_append] at HE
        clear ho2 hg2 hm2 HS2
        obtain ⟨ve, rfl⟩ : ∃ ve, ve = v2 := ⟨_, rfl⟩
        refine hK.out _ _ HS.out ?_
        clear hK K
        try simp only [Act.put, List.setIfInBounds_toArray, List.set_cons_zero, List.set_cons_succ]
        refine' wpAnyJ_step (i := 4) (o := _) (by kernel_rfl) ?ho4n5 (fun K hK => ?step4n5)
        case ho4n5 => (simp only [List.getElem?_toArray, List.getElem?_cons_succ, List.getElem?_cons_zero]; rfl)
        go_simp
        have hal := below_alloc (Below.refl (u02).heap.size (u02)) (.cells #[.int .i64 x.k, .int .i64 x.f, .int .i64 x.t, .int .u64 x.id, .int .u64 x.n, .slice x.A x.L.length x.c] 28)
        have HXX : Hid (RowAt Mg.cells 6 ((u02).alloc (.cells #[.int .i64 x.k, .int .i64 x.f, .int .i64 x.t, .int .u64 x.id, .int .u64 x.n, .slice x.A x.L.length x.c] 28)) (some ⟨(u02).heap.size, 0, none⟩) [x]) := hide (RowAt.new_one (cells := Mg.cells) (sz := 6) (y := x) (heap_alloc_new (u02) (.cells #[.int .i64 x.k, .int .i64 x.f, .int .i64 x.t, .int .u64 x.id, .int .u64 x.n, .slice x.A x.L.length x.c] 28)))
        have hgxl : (u02).heap.size < ((u02).alloc (.cells #[.int .i64 x.k, .int .i64 x.f, .int .i64 x.t, .int .u64 x.id, .int .u64 x.n, .slice x.A x.L.length x.c] 28)).heap.size := by simp
        have HNE : Hid (ve.ownBlock ≠ some (u02).heap.size) := hide (fun e => by have := (OwnL.lt HE.out _ e).2; omega)
        have HE := hide (OwnL.below HE.out hal)
        have HS := hide (below_step HS.out hal)
        obtain ⟨gx, hgx⟩ : ∃ gx, (u02).heap.size = gx := ⟨_, rfl⟩
        rw [hgx] at HXX hgxl HNE
        try rw [hgx]
        obtain ⟨u024, hu024⟩ : ∃ u024, (u02).alloc (.cells #[.int .i64 x.k, .int .i64 x.f, .int .i64 x.t, .int .u64 x.id, .int .u64 x.n, .slice x.A x.L.length x.c] 28) = u024 := ⟨_, rfl⟩
        rw [hu024] at HXX hgxl HS HE
        try rw [hu024]
        clear hal hgx hu024
        refine hK.out _ _ HS.out ?_
        clear hK K
        try simp only [Act.put, List.setIfInBounds_toArray, List.set_cons_zero, List.set_cons_succ]
        refine' wpAnyJ_step (i := 5) (o := _) (by kernel_rfl) ?ho5n6 (fun K hK => ?step5n6)
        case ho5n6 => (simp only [List.getElem?_toArray, List.getElem?_cons_succ, List.getElem?_cons_zero]; rfl)
        refine step_app_msg rfl (.tmp 10) (.tmp 12) rfl rfl ud.heap.size ve M rfl HE.out (some ⟨gx, 0, none⟩) 1 1 [x] rfl rfl HXX.out (by rw [HM.out]; omega) HS.out.size ?_
        intro v5 u0245 ho5 hg5 hm5
        have HS5 := hide (HS.out.grown hg5 HS.out.size (fun q hq => (OwnL.lt HE.out q hq).1))
        obtain ⟨A5, c5, rfl, hr5, _, hc5, hcm5⟩ := OwnL.row Mg.cells_len ho5
        have hl5 : (M ++ [x]).length = n + 1 := by rw [List.length_append, HM.out]; rfl
        rw [hl5] at ho5 hc5
        try rw [hl5]
        have HO5 := hide ho5
        have HS := HS5
        clear ho5 hg5 hm5 HS5 hr5 HE HXX hl5
        refine hK.out _ _ HS.out ?_
        clear hK K
        try simp only [Act.put, List.setIfInBounds_toArray, List.set_cons_zero, List.set_cons_succ]
        refine' wpAnyJ_last (i := 6) (o := _) (by kernel_rfl) ?ho6n7 (by kernel_rfl) (fun K hK => ?step6n7)
        case ho6n7 => (simp only [List.getElem?_toArray, List.getElem?_cons_succ, List.getElem?_cons_zero]; rfl)
        obtain ⟨_, d7, f7⟩ := HC.out _ HS.out
        go_simp
        refine hK.out _ _ ?_
        clear hK K
        try simp only [Act.put, List.setIfInBounds_toArray, List.set_cons_zero, List.set_cons_succ]
        refine wpAnyJ_done (by kernel_rfl) ?_ _
        refine NoPanic.normal ?_
        go_wp2_with fail
        go_meet
        exact ⟨_, _, _, _, HO5.out, hc5, hcm5, below_step HUD.out HS.out, HUD.out.size, trivial, rfl⟩
      case sbn4 =>
        go_simp
        have hal := below_alloc (Below.refl (u0).heap.size (u0)) (.cells #[.int .i64 x.k, .int .i64 x.f, .int .i64 x.t, .int .u64 x.id, .int .u64 x.n, .slice x.A x.L.length x.c] 28)
        have HXX : Hid (RowAt Mg.cells 6 ((u0).alloc (.cells #[.int .i64 x.k, .int .i64 x.f, .int .i64 x.t, .int .u64 x.id, .int .u64 x.n, .slice x.A x.L.length x.c] 28)) (some ⟨(u0).heap.size, 0, none⟩) [x]) := hide (RowAt.new_one (cells := Mg.cells) (sz := 6) (y := x) (heap_alloc_new (u0) (.cells #[.int .i64 x.k, .int .i64 x.f, .int .i64 x.t, .int .u64 x.id, .int .u64 x.n, .slice x.A x.L.length x.c] 28)))
        have hgxl : (u0).heap.size < ((u0).alloc (.cells #[.int .i64 x.k, .int .i64 x.f, .int .i64 x.t, .int .u64 x.id, .int .u64 x.n, .slice x.A x.L.length x.c] 28)).heap.size := by simp
        have HNE : Hid (ve.ownBlock ≠ some (u0).heap.size) := hide (fun e => by have := (OwnL.lt HE.out _ e).2; omega)
        have HE := hide (OwnL.below HE.out hal)
        have HS := hide (below_step HS.out hal)
        obtain ⟨gx, hgx⟩ : ∃ gx, (u0).heap.size = gx := ⟨_, rfl⟩
        rw [hgx] at HXX hgxl HNE
        try rw [hgx]
        obtain ⟨u04, hu04⟩ : ∃ u04, (u0).alloc (.cells #[.int .i64 x.k, .int .i64 x.f, .int .i64 x.t, .int .u64 x.id, .int .u64 x.n, .slice x.A x.L.length x.c] 28) = u04 := ⟨_, rfl⟩
        rw [hu04] at HXX hgxl HS HE
        try rw [hu04]
        clear hal hgx hu04
        refine hK.out _ _ HS.out ?_
        clear hK K
        try simp only [Act.put, List.setIfInBounds_toArray, List.set_cons_zero, List.set_cons_succ]
        refine' wpAnyJ_step (i := 2) (o := _) (by kernel_rfl) ?ho2n8 (fun K hK => ?step2n8)
        case ho2n8 => (simp only [List.getElem?_toArray, List.getElem?_cons_succ, List.getElem?_cons_zero]; rfl)
        refine step_app_msg rfl (.tmp 8) (.tmp 9) rfl rfl ud.heap.size ve [] rfl HE.out A c n M HM.out rfl (HRW.out _ HS.out) (by simp only [List.length_nil]; omega) HS.out.size ?_
        intro v2 u042 ho2 hg2 hm2
        have HS2 := hide (HS.out.grown hg2 HS.out.size (fun q hq => (OwnL.lt HE.out q hq).1))
        have HXX := hide (rowm_grown HXX.out hg2 HNE.out)
        have HNE := hide (nem_moved hm2 HNE.out hgxl)
        have hgxl := Nat.lt_of_lt_of_le hgxl hg2.size
        have HE := hide ho2
        have HS := HS2
        rw [List.nil_append] at HE
        clear ho2 hg2 hm2 HS2
        obtain ⟨ve, rfl⟩ : ∃ ve, ve = v2 := ⟨_, rfl⟩
        refine hK.out _ _ HS.out ?_
        clear hK K
        try simp only [Act.put, List.setIfInBounds_toArray, List.set_cons_zero, List.set_cons_succ]
        refine' wpAnyJ_step (i := 5) (o := _) (by kernel_rfl) ?ho5n9 (fun K hK => ?step5n9)
        case ho5n9 => (simp only [List.getElem?_toArray, List.getElem?_cons_succ, List.getElem?_cons_zero]; rfl)
        refine step_app_msg rfl (.tmp 10) (.tmp 12) rfl rfl ud.heap.size ve M rfl HE.out (some ⟨gx, 0, none⟩) 1 1 [x] rfl rfl HXX.out (by rw [HM.out]; omega) HS.out.size ?_
        intro v5 u0425 ho5 hg5 hm5
        have HS5 := hide (HS.out.grown hg5 HS.out.size (fun q hq => (OwnL.lt HE.out q hq).1))
        obtain ⟨A5, c5, rfl, hr5, _, hc5, hcm5⟩ := OwnL.row Mg.cells_len ho5
        have hl5 : (M ++ [x]).length = n + 1 := by rw [List.length_append, HM.out]; rfl
        rw [hl5] at ho5 hc5
        try rw [hl5]
        have HO5 := hide ho5
        have HS := HS5
        clear ho5 hg5 hm5 HS5 hr5 HE HXX hl5
        refine hK.out _ _ HS.out ?_
        clear hK K
        try simp only [Act.put, List.setIfInBounds_toArray, List.set_cons_zero, List.set_cons_succ]
        refine' wpAnyJ_last (i := 6) (o := _) (by kernel_rfl) ?ho6n10 (by kernel_rfl) (fun K hK => ?step6n10)
        case ho6n10 => (simp only [List.getElem?_toArray, List.getElem?_cons_succ, List.getElem?_cons_zero]; rfl)
        obtain ⟨_, d7, f7⟩ := HC.out _ HS.out
        go_simp
        refine hK.out _ _ ?_
        clear hK K
        try simp only [Act.put, List.setIfInBounds_toArray, List.set_cons_zero, List.set_cons_succ]
        refine wpAnyJ_done (by kernel_rfl) ?_ _
        refine NoPanic.normal ?_
        go_wp2_with fail
        go_meet
        exact ⟨_, _, _, _, HO5.out, hc5, hcm5, below_step HUD.out HS.out, HUD.out.size, trivial, rfl⟩
    case sbn3 =>
      go_simp
      have hal := below_alloc (Below.refl (ud).heap.size (ud)) (.cells #[.int .i64 x.k, .int .i64 x.f, .int .i64 x.t, .int .u64 x.id, .int .u64 x.n, .slice x.A x.L.length x.c] 28)
      have HXX : Hid (RowAt Mg.cells 6 ((ud).alloc (.cells #[.int .i64 x.k, .int .i64 x.f, .int .i64 x.t, .int .u64 x.id, .int .u64 x.n, .slice x.A x.L.length x.c] 28)) (some ⟨(ud).heap.size, 0, none⟩) [x]) := hide (RowAt.new_one (cells := Mg.cells) (sz := 6) (y := x) (heap_alloc_new (ud) (.cells #[.int .i64 x.k, .int .i64 x.f, .int .i64 x.t, .int .u64 x.id, .int .u64 x.n, .slice x.A x.L.length x.c] 28)))
      have hgxl : (ud).heap.size < ((ud).alloc (.cells #[.int .i64 x.k, .int .i64 x.f, .int .i64 x.t, .int .u64 x.id, .int .u64 x.n, .slice x.A x.L.length x.c] 28)).heap.size := by simp
      have HS := hide (below_step HS.out hal)
      obtain ⟨gx, hgx⟩ : ∃ gx, (ud).heap.size = gx := ⟨_, rfl⟩
      rw [hgx] at HXX hgxl
      try rw [hgx]
      obtain ⟨u4, hu4⟩ : ∃ u4, (ud).alloc (.cells #[.int .i64 x.k, .int .i64 x.f, .int .i64 x.t, .int .u64 x.id, .int .u64 x.n, .slice x.A x.L.length x.c] 28) = u4 := ⟨_, rfl⟩
      rw [hu4] at HXX hgxl HS
      try rw [hu4]
      clear hal hgx hu4
      refine hK.out _ _ HS.out ?_
      clear hK K
      try simp only [Act.put, List.setIfInBounds_toArray, List.set_cons_zero, List.set_cons_succ]
      refine' wpAnyJ_step (i := 0) (o := _) (by kernel_rfl) ?ho0n11 (fun K hK => ?step0n11)
      case ho0n11 => (simp only [List.getElem?_toArray, List.getElem?_cons_succ, List.getElem?_cons_zero]; rfl)
      go_simp
      have hal := below_alloc (Below.refl (u4).heap.size (u4)) (.cells #[] 28)
      have HE := hide (own_emptyE Mg.cells 6 28 ud.heap.size (u4) HS.out.size)
      have HXX := hide (HXX.out.below hal)
      have HNE : Hid ((Value.slice (some ⟨(u4).heap.size, 0, none⟩) 0 0).ownBlock ≠ some gx) := hide (fun e => by have e2 : (u4).heap.size = gx := Option.some.inj e; omega)
      have hgxl := Nat.lt_of_lt_of_le hgxl hal.size
      have HS := hide (below_step HS.out hal)
      obtain ⟨ve, hve⟩ : ∃ ve, Value.slice (some ⟨(u4).heap.size, 0, none⟩) 0 0 = ve := ⟨_, rfl⟩
      rw [hve] at HE HNE
      try rw [hve]
      obtain ⟨u40, hu40⟩ : ∃ u40, (u4).alloc (.cells #[] 28) = u40 := ⟨_, rfl⟩
      rw [hu40] at HE HS HXX hgxl
      try rw [hu40]
      clear hal hve hu40
      refine hK.out _ _ HS.out ?_
      clear hK K
      try simp only [Act.put, List.setIfInBounds_toArray, List.set_cons_zero, List.set_cons_succ]
      refine' wpAnyJ_step (i := 2) (o := _) (by kernel_rfl) ?ho2n12 (fun K hK => ?step2n12)
      case ho2n12 => (simp only [List.getElem?_toArray, List.getElem?_cons_succ, List.getElem?_cons_zero]; rfl)
      refine step_app_msg rfl (.tmp 8) (.tmp 9) rfl rfl ud.heap.size ve [] rfl HE.out A c n M HM.out rfl (HRW.out _ HS.out) (by simp only [List.length_nil]; omega) HS.out.size ?_
      intro v2 u402 ho2 hg2 hm2
      have HS2 := hide (HS.out.grown hg2 HS.out.size (fun q hq => (OwnL.lt HE.out q hq).1))
      have HXX := hide (rowm_grown HXX.out hg2 HNE.out)
      have HNE := hide (nem_moved hm2 HNE.out hgxl)
      have hgxl := Nat.lt_of_lt_of_le hgxl hg2.size
      have HE := hide ho2
      have HS := HS2
      rw [List.nil_append] at HE
      clear ho2 hg2 hm2 HS2
      obtain ⟨ve, rfl⟩ : ∃ ve, ve = v2 := ⟨_, rfl⟩
      refine hK.out _ _ HS.out ?_
      clear hK K
      try simp only [Act.put, List.setIfInBounds_toArray, List.set_cons_zero, List.set_cons_succ]
      refine' wpAnyJ_step (i := 5) (o := _) (by kernel_rfl) ?ho5n13 (fun K hK => ?step5n13)
      case ho5n13 => (simp only [List.getElem?_toArray, List.getElem?_cons_succ, List.getElem?_cons_zero]; rfl)
      refine step_app_msg rfl (.tmp 10) (.tmp 12) rfl rfl ud.heap.size ve M rfl HE.out (some ⟨gx, 0, none⟩) 1 1 [x] rfl rfl HXX.out (by rw [HM.out]; omega) HS.out.size ?_
      intro v5 u4025 ho5 hg5 hm5
      have HS5 := hide (HS.out.grown hg5 HS.out.size (fun q hq => (OwnL.lt HE.out q hq).1))
      obtain ⟨A5, c5, rfl, hr5, _, hc5, hcm5⟩ := OwnL.row Mg.cells_len ho5
      have hl5 : (M ++ [x]).length = n + 1 := by rw [List.length_append, HM.out]; rfl
      rw [hl5] at ho5 hc5
      try rw [hl5]
      have HO5 := hide ho5
      have HS := HS5
      clear ho5 hg5 hm5 HS5 hr5 HE HXX hl5
      refine hK.out _ _ HS.out ?_
      clear hK K
      try simp only [Act.put, List.setIfInBounds_toArray, List.set_cons_zero, List.set_cons_succ]
      refine' wpAnyJ_last (i := 6) (o := _) (by kernel_rfl) ?ho6n14 (by kernel_rfl) (fun K hK => ?step6n14)
      case ho6n14 => (simp only [List.getElem?_toArray, List.getElem?_cons_succ, List.getElem?_cons_zero]; rfl)
      obtain ⟨_, d7, f7⟩ := HC.out _ HS.out
      go_simp
      refine hK.out _ _ ?_
      clear hK K
      try simp only [Act.put, List.setIfInBounds_toArray, List.set_cons_zero, List.set_cons_succ]
      refine wpAnyJ_done (by kernel_rfl) ?_ _
      refine NoPanic.normal ?_
      go_wp2_with fail
      go_meet
      exact ⟨_, _, _, _, HO5.out, hc5, hcm5, below_step HUD.out HS.out, HUD.out.size, trivial, rfl⟩
  case rest =>
    obtain ⟨u, A', c', base, ho, hc1, hc2, hbu, hbs, _, rfl⟩ := hcut
    have hst : Sets (fun k => k = c7) u (u.setCell ⟨c7, 0, none⟩ (.slice A' (n + 1) c')) := (Sets.refl (S := fun k => k = c7) u).set (g := c7) (fun _ => rfl) 0 _
    have e6 := (hst.block c6 (Nat.lt_of_lt_of_le (Array.getElem?_eq_some_iff.1 HD6.out).1 hbu.size) (fun e => h67 e)).trans ((hbu.block c6 (Array.getElem?_eq_some_iff.1 HD6.out).1).trans HD6.out)
    have e8 := (hst.block c8 (Nat.lt_of_lt_of_le (Array.getElem?_eq_some_iff.1 HD8.out).1 hbu.size) (fun e => h78 e.symm)).trans ((hbu.block c8 (Array.getElem?_eq_some_iff.1 HD8.out).1).trans HD8.out)
    have e9 := (hst.block c9 (Nat.lt_of_lt_of_le (Array.getElem?_eq_some_iff.1 HD9.out).1 hbu.size) (fun e => h79 e.symm)).trans ((hbu.block c9 (Array.getElem?_eq_some_iff.1 HD9.out).1).trans HD9.out)
    have b7u := (hbu.block c7 (Array.getElem?_eq_some_iff.1 HD7.out).1).trans HD7.out
    have e7 : (u.setCell ⟨c7, 0, none⟩ (.slice A' (n + 1) c')).heap[c7]? = some (.cells #[.slice A' (n + 1) c'] 41 (0, 0)) := by simp [World.setCell, Array.getElem?_modify, b7u]
    have hob : (Value.slice A' (n + 1) c').ownBlock ≠ some c7 := fun e => by
      have h1 := (OwnL.lt ho _ e).1
      have h2 := (Array.getElem?_eq_some_iff.1 HD7.out).1
      omega
    obtain ⟨hol, hoo⟩ := ho
    rcases hoo with ⟨_, h0⟩ | ⟨g, cap, cur, ev, hgb, hgh, hgn, hgm, hgs, hgt⟩
    · simp at h0
    obtain ⟨rfl, rfl⟩ : A' = some ⟨g, 0, none⟩ ∧ c' = cap := by injection ev with e1 e2 e3; exact ⟨e1, e3⟩
    have ho : OwnL Mg.cells 6 28 base u (.slice (some ⟨g, 0, none⟩) (n + 1) c') (M ++ [x]) := ⟨hol, .inr ⟨g, c', cur, ev, hgb, hgh, hgn, hgm, hgs, hgt⟩⟩
    have hgc7 : ¬ g = c7 := fun e => hob (by rw [← e]; rfl)
    have hgl := (Array.getElem?_eq_some_iff.1 hgh).1
    have hgv := (hst.block g hgl (fun e => hgc7 e)).trans hgh
    have hrow : RowAt Mg.cells 6 (u.setCell ⟨c7, 0, none⟩ (.slice (some ⟨g, 0, none⟩) (n + 1) c')) (some ⟨g, 0, none⟩) (M ++ [x]) := by
      obtain ⟨Az, cz, ez, hrz, _⟩ := OwnL.row Mg.cells_len (OwnL.setFar ho hob (o := 0) (.slice (some ⟨g, 0, none⟩) (n + 1) c'))
      injection ez with e1
      subst e1
      exact hrz
    have hwg : w.heap.size ≤ g := by have := HST.out.size; omega
    have hgc8 : ¬ g = c8 := fun e => by have := (Array.getElem?_eq_some_iff.1 HD8.out).1; omega
    have hgfz : ∀ o, (u.setCell ⟨c7, 0, none⟩ (.slice (some ⟨g, 0, none⟩) (n + 1) c')).frozen? ⟨g, o, none⟩ = false := fun o => by simp [World.frozen?, hgv]
    have hsall : Sets (fun k => k = c7 ∨ k = c8 ∨ k = c9) w (u.setCell ⟨c7, 0, none⟩ (.slice (some ⟨g, 0, none⟩) (n + 1) c')) := (HST.out.trans (Sets.of (S := fun _ => False) hbu) (fun _ _ h => h.elim)).trans hst (fun _ _ e => .inl e)
    obtain ⟨wv, hwv⟩ : ∃ wv, u.setCell ⟨c7, 0, none⟩ (.slice (some ⟨g, 0, none⟩) (n + 1) c') = wv := ⟨_, rfl⟩
    rw [hwv] at e6 e7 e8 e9 hgv hrow hgfz hsall
    have k6 := (cell_of_row wv c6 0 _ _ _ e6).trans rfl
    have k7 := (cell_of_row wv c7 0 _ _ _ e7).trans rfl
    have k8 := (cell_of_row wv c8 0 _ _ _ e8).trans rfl
    have z7 : wv.frozen? ⟨c7, 0, none⟩ = false := by simp [World.frozen?, e7]
    have z8 : wv.frozen? ⟨c8, 0, none⟩ = false := by simp [World.frozen?, e8]
    have E7 := hide e7
    have E8 := hide e8
    have E9 := hide e9
    have HROW := hide hrow
    have HFZ := hide hgfz
    have HSA := hide hsall
    have HGV := hide hgv
    try rw [hwv]
    clear hst e6 e7 e8 e9 b7u hol ev hgh hgs hgt ho hob hgv hrow hgfz hsall hwv hgn hgm
    unfold maxLen at hc2
    by_cases hmn : m < n + 1
    · have hmI : (m : Int) < (n : Int) + 1 := by omega
      have HSC : Hid (sendC m M x = (M ++ [x]).drop 1 ∧ sendL m M = 1) := hide (by unfold sendC sendL; rw [HM.out, if_pos hmn, if_pos hmn]; exact ⟨rfl, rfl⟩)
      have hlw : IntKind.i64.wrap ((l : Int) + 1) = (l : Int) + 1 := by rw [IntKind.wrap_i64]; omega
      have hln : ((M ++ [x]).drop 1).length = n := by rw [List.length_drop, List.length_append, HM.out]; rfl
      have HLN := hide hln
      clear hln
      have fin : ∀ (p c'' : Nat) (N : List Mg), N.length = n → n ≤ c'' → c'' ≤ maxLen → N = (M ++ [x]).drop 1 → RowAt Mg.cells 6 wv (some ⟨g, p, none⟩) N →
          ∀ w2, w2 = (wv.setCell ⟨c7, 0, none⟩ (.slice (some ⟨g, p, none⟩) n c'')).setCell ⟨c8, 0, none⟩ (.int .i64 ((l : Int) + 1)) →
          ∃ (A' : Option Addr) (c' : Nat) (N : List Mg) (q : Nat),
            w2.heap[c7]? = some (.cells #[.slice A' N.length c'] 41 (0, 0))
            ∧ w2.heap[c8]? = some (.cells #[.int .i64 ((l + q : Nat) : Int)] 3 (0, 0))
            ∧ w2.heap[c9]? = some (.cells #[.int .i64 ((s + 1 : Nat) : Int)] 3 (0, 0))
            ∧ RowAt Mg.cells 6 w2 A' N ∧ N.length ≤ c' ∧ c' ≤ maxLen ∧ N = sendC m M x ∧ (q : Int) = sendL m M
            ∧ (∀ a, A' = some a → w.heap.size ≤ a.block ∧ ∀ o, w2.frozen? ⟨a.block, o, none⟩ = false)
            ∧ Sets (fun k => k = c7 ∨ k = c8 ∨ k = c9) w w2 := by
        rintro p c'' N hN1 hN2 hN3 hN4 hN5 w2 rfl
        have hs1 : Sets (fun k => k = c7 ∨ k = c8 ∨ k = c9) wv (wv.setCell ⟨c7, 0, none⟩ (.slice (some ⟨g, p, none⟩) n c'')) := (Sets.refl (S := fun k => k = c7 ∨ k = c8 ∨ k = c9) wv).set (g := c7) (fun _ => .inl rfl) 0 _
        have hs2 := hs1.set (g := c8) (fun _ => .inr (.inl rfl)) 0 (.int .i64 ((l : Int) + 1))
        have hgl2 := (Array.getElem?_eq_some_iff.1 HGV.out).1
        have hgc9 : ¬ g = c9 := fun e => by have := (Array.getElem?_eq_some_iff.1 HD9.out).1; omega
        refine ⟨some ⟨g, p, none⟩, c'', N, 1, ?_, ?_, ?_, ?_, by omega, hN3, hN4.trans HSC.out.1.symm, by rw [HSC.out.2]; rfl, ?_, HSA.out.trans hs2 (fun _ _ h => h)⟩
        · rw [hN1]
          simp [World.setCell, Array.getElem?_modify, E7.out, h78, Ne.symm h78]
        · simp [World.setCell, Array.getElem?_modify, E8.out, h78, Ne.symm h78]
        · simp [World.setCell, Array.getElem?_modify, E9.out, h79, Ne.symm h79, h89, Ne.symm h89]
        · exact hN5.sets hs2 (by intro a ea _ h; obtain rfl := Option.some.inj ea; rcases h with h | h | h <;> simp only at h <;> omega)
        · rintro a rfl_
          obtain rfl := Option.some.inj rfl_
          refine ⟨hwg, fun o => ?_⟩
          have := (hs2.block g hgl2 (by intro h; rcases h with h | h | h <;> omega)).trans HGV.out
          simp [World.frozen?, this]
      by_cases hc1e : c' = 1
      · have hn0 : n = 0 := by omega
        have hdn : (M ++ [x]).drop 1 = [] := List.length_eq_zero_iff.1 (HLN.out.trans hn0)
        go_wp2_with fail
        go_end0
        exact ⟨rfl, fin 0 0 [] hn0.symm (by omega) (by unfold maxLen; omega) hdn.symm RowAt.nil_ _ (by rw [hn0])⟩
      · go_wp2_with fail
        go_end0
        exact ⟨rfl, fin 6 (c' - 1) ((M ++ [x]).drop 1) HLN.out (by omega) (by unfold maxLen; omega) rfl (row_drop1 HROW.out) _ rfl⟩
    · have hmI : ¬ (m : Int) < (n : Int) + 1 := by omega
      have HSC : Hid (sendC m M x = M ++ [x] ∧ sendL m M = 0) := hide (by unfold sendC sendL; rw [HM.out, if_neg hmn, if_neg hmn]; exact ⟨rfl, rfl⟩)
      go_wp2_with fail
      go_end0
      refine ⟨rfl, Exists.intro (some ⟨g, 0, none⟩) (Exists.intro c' (Exists.intro (M ++ [x]) ⟨by rw [List.length_append, HM.out]; exact E7.out, Exists.intro 0 ?_⟩))⟩
      refine ⟨E8.out, E9.out, HROW.out, by rw [List.length_append, HM.out]; exact hc1, by unfold maxLen; omega, HSC.out.1.symm, by rw [HSC.out.2]; rfl, ?_, HSA.out⟩
      rintro a rfl_
      obtain rfl := Option.some.inj rfl_
      exact ⟨hwg, HFZ.out⟩
end Go.Proofs.Ytihhepojhoaacaa
