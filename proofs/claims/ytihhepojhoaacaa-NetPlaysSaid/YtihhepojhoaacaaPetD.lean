/- net.Net: Double, Turn: contracts. Conditions: the net as it lies. -/
import Derived.Test.YtihhepojhoaacaaPetS
namespace Go.Proofs.Ytihhepojhoaacaa
set_option linter.unusedVariables false
set_option linter.unusedSimpArgs false
open Go.ChangeShapes Go.WideShapes Go.ChangeAt Go.RowKit
variable {Fr : Nat → Prop}

theorem hasB_yes {n i : Nat} (h : i < n) : hasB n (i : Int) = true := by simp [hasB, h]
theorem double_miss {w : World} {b : Nat} {rb : Option Nat} {m : Nat} {C : List Mg} {l s : Int} (h : NetW Fr w b rb m C l s) (i : Int) (hi : ¬ (0 ≤ i ∧ i < (C.length : Int))) :
    Calls Try.prog 15 #[.pointer (some ⟨b, 0, none⟩), .int .i64 i] w fun e w' => e = .returned (.bool false) ∧ w' = w := by
  obtain ⟨v, M, hV, hrb, hMC⟩ := h.at_
  have hlen : M.length = C.length := by rw [← hMC, List.length_map]
  obtain ⟨A, c, rfl, hrow, hnc, hcm⟩ := hV.slice
  have HAS := hide (has_any i (nw_box hV.box).2.1.2.1)
  rw [hlen, hasB_no hi] at HAS
  clear hV hrow h hMC hlen hi hrb
  go_enter Try.func15, Try.ntmps15
  go_wp2_with fail
  refine (Calls.mono HAS.out ?_); rintro e w2 ⟨rfl, rfl⟩
  go_wp2_with fail
  go_ret
  exact ⟨rfl, rfl⟩
set_option maxRecDepth 100000 in
set_option maxHeartbeats 1600000 in
theorem double_hit {w : World} (hFr : ∀ g, w.heap.size ≤ g → Fr g) {b : Nat} {rb : Option Nat} {m : Nat} {C : List Mg} {l s : Int} (h : NetW Fr w b rb m C l s) (i : Nat) (hi : i < C.length) (hC : C.length ≤ 100000) (hl : 0 ≤ l ∧ l ≤ 1099511627776) (hs : 0 ≤ s ∧ s ≤ 1099511627776) :
    Calls Try.prog 15 #[.pointer (some ⟨b, 0, none⟩), .int .i64 i] w fun e w' => ∃ rb', e = .returned (.bool true) ∧ NetW Fr w' b rb' m (sendC m C (C[i]'hi)) (l + sendL m C) (s + 1) ∧ Sets (NBlk b rb) w w' ∧ MovedB w rb rb' := by
  obtain ⟨v, M, hV, hrb, hMC⟩ := h.at_
  have hlen : M.length = C.length := by rw [← hMC, List.length_map]
  have hiM : i < M.length := by omega
  have hCi : C[i]'hi = (M[i]'hiM).bare := by subst hMC; simp
  have hxr := hV.rd M[i] (List.getElem_mem _)
  obtain ⟨A, c, rfl, hrow, hnc, hcm⟩ := hV.slice
  obtain ⟨gr, off, rfl, hgr, hcr⟩ := hrow.at_ hiM
  obtain ⟨hbl, ⟨q0, q1, q2, q3⟩, hz⟩ := nw_box hV.box
  have HAS := hide (has_any (i : Int) q1)
  rw [hasB_yes hiM] at HAS
  have hxc : ∀ j u, (Mg.cells M[i])[j]? = some u → w.cell? ⟨gr, off + i * 6 + j, none⟩ = some u := fun j u hu => hcr i hiM j u hu
  have hok : mokB (M[i]'hiM) = true := by rw [mokB_same (bare_same _), ← hCi]; exact h.ok _ (List.getElem_mem _)
  have HSD := hide (send_ok hFr h M[i] hxr.1 (fun a ha hn hb => by
    have := hxr.2 a ha hn
    rcases hb with hb | hb
    · omega
    · exact this.2 (by rw [hrb]; exact hb)) hok hC hl hs)
  rw [← hCi] at HSD
  generalize M[i] = x at *
  generalize C[i] = y at *
  have y0 := hxc 0 _ rfl
  have y1 := hxc 1 _ rfl
  have y2 := hxc 2 _ rfl
  have y3 := hxc 3 _ rfl
  have y4 := hxc 4 _ rfl
  have y5 := hxc 5 _ rfl
  simp only [Nat.add_zero] at y0
  obtain ⟨n, hn⟩ : ∃ n, M.length = n := ⟨_, rfl⟩
  rw [hn] at q1 hiM
  have hiI : (i : Int) < (n : Int) := by omega
  have hi0 : (0 : Int) ≤ (i : Int) := by omega
  clear hV hrow hcr h hMC hlen hi hrb hxr hCi hxc hok q0 q2 q3 hz hn
  go_enter Try.func15, Try.ntmps15
  go_wp2_with (first | (go_at_call 25; refine (Calls.mono HAS.out ?_); rintro e w2 ⟨rfl, rfl⟩) | (go_at_call 8; refine (Calls.mono HSD.out ?_); rintro e w3 ⟨rb', rfl, hN, hS, hM⟩; have HN := hide hN; have HS := hide hS; have HM := hide hM; clear hN hS hM))
  go_ret
  exact ⟨rb', rfl, HN.out, HS.out, HM.out⟩
theorem turn_miss {w : World} {b : Nat} {rb : Option Nat} {m : Nat} {C : List Mg} {l s : Int} (h : NetW Fr w b rb m C l s) (i k : Int) (hi : ¬ ((0 ≤ i ∧ i < (C.length : Int)) ∧ 0 ≤ k ∧ k < (C.length : Int))) :
    Calls Try.prog 16 #[.pointer (some ⟨b, 0, none⟩), .int .i64 i, .int .i64 k] w fun e w' => e = .returned (.bool false) ∧ w' = w := by
  obtain ⟨v, M, hV, hrb, hMC⟩ := h.at_
  have hlen : M.length = C.length := by rw [← hMC, List.length_map]
  obtain ⟨A, c, rfl, hrow, hnc, hcm⟩ := hV.slice
  have HAS := hide (fun i => has_any i (nw_box hV.box).2.1.2.1)
  rw [hlen] at HAS
  clear hV hrow h hMC hlen hrb
  by_cases h1 : 0 ≤ i ∧ i < (C.length : Int)
  · have hk := HAS.out k
    rw [hasB_no (fun h2 => hi ⟨h1, h2⟩)] at hk
    have hI := HAS.out i
    rw [show hasB C.length i = true by simp [hasB, h1]] at hI
    have HK := hide hk
    have HI := hide hI
    clear hk hI HAS hi h1
    go_enter Try.func16, Try.ntmps16
    go_wp2_with fail
    refine (Calls.mono HI.out ?_); rintro e w2 ⟨rfl, rfl⟩
    go_wp2_with fail
    refine (Calls.mono HK.out ?_); rintro e w3 ⟨rfl, rfl⟩
    go_wp2_with fail
    go_ret
    exact ⟨rfl, rfl⟩
  · have hI := HAS.out i
    rw [hasB_no h1] at hI
    have HI := hide hI
    clear hI HAS hi h1
    go_enter Try.func16, Try.ntmps16
    go_wp2_with fail
    refine (Calls.mono HI.out ?_); rintro e w2 ⟨rfl, rfl⟩
    go_wp2_with fail
    go_ret
    exact ⟨rfl, rfl⟩
theorem row6 {base : Nat} {w : World} {g n c : Nat} {M : List Mg} (h : OwnL Mg.cells 6 28 base w (.slice (some ⟨g, 0, none⟩) n c) M) {t : Nat} (ht : t < M.length) : w.cell? ⟨g, t * 6, none⟩ = some (.int .i64 M[t].k) ∧ w.cell? ⟨g, t * 6 + 1, none⟩ = some (.int .i64 M[t].f) ∧ w.cell? ⟨g, t * 6 + 2, none⟩ = some (.int .i64 M[t].t) ∧ w.cell? ⟨g, t * 6 + 3, none⟩ = some (.int .u64 M[t].id) ∧ w.cell? ⟨g, t * 6 + 4, none⟩ = some (.int .u64 M[t].n) ∧ w.cell? ⟨g, t * 6 + 5, none⟩ = some (.slice M[t].A M[t].L.length M[t].c) := by
  obtain ⟨A', c', e', hr', _⟩ := OwnL.row Mg.cells_len h
  injection e' with e1
  subst e1
  obtain ⟨gr, off, eA, hgr, hcr⟩ := hr'.at_ ht
  obtain ⟨rfl, rfl⟩ : g = gr ∧ 0 = off := by injection eA with h; injection h; exact ⟨by assumption, by assumption⟩
  have hx : ∀ j u, (Mg.cells M[t])[j]? = some u → w.cell? ⟨g, t * 6 + j, none⟩ = some u := fun j u hu => by
    have := hcr t ht j u hu
    simpa using this
  exact ⟨by simpa using hx 0 _ rfl, hx 1 _ rfl, hx 2 _ rfl, hx 3 _ rfl, hx 4 _ rfl, hx 5 _ rfl⟩
theorem own_drew {α : Type} {cells : α → List Value} {sz : Nat} {e : TypeId} {base : Nat} {w : World} {v : Value} {L : List α} (h : OwnL cells sz e base w v L) : OwnL cells sz e base w.drew v L := h
theorem fl_set : ∀ (M : List Mg) (k : Nat) (x : Mg), k < M.length → fl (M.set k x) = (fl M).take (k * 6) ++ Mg.cells x ++ (fl M).drop (k * 6 + 6)
  | [], k, x, h => by simp at h
  | a :: M, 0, x, _ => by
    show Mg.cells x ++ fl M = (Mg.cells a ++ fl M).take (0 * 6) ++ Mg.cells x ++ (Mg.cells a ++ fl M).drop (0 * 6 + 6)
    simp [Mg.cells]
  | a :: M, k + 1, x, h => by
    have ih := fl_set M k x (by simpa using h)
    show Mg.cells a ++ fl (M.set k x) = (Mg.cells a ++ fl M).take ((k + 1) * 6) ++ Mg.cells x ++ (Mg.cells a ++ fl M).drop ((k + 1) * 6 + 6)
    rw [ih, show (k + 1) * 6 = (Mg.cells a).length + k * 6 by rw [Mg.cells_len]; omega, List.take_length_add_append, show (Mg.cells a).length + k * 6 + 6 = (Mg.cells a).length + (k * 6 + 6) by omega, List.drop_length_add_append]
    simp only [List.append_assoc]
/-- Six stores are one row of cells. -/
theorem six_sets (w : World) (g o : Nat) (v0 v1 v2 v3 v4 v5 : Value) : (((((w.setCell ⟨g, o, none⟩ v0).setCell ⟨g, o + 1, none⟩ v1).setCell ⟨g, o + 2, none⟩ v2).setCell ⟨g, o + 3, none⟩ v3).setCell ⟨g, o + 4, none⟩ v4).setCell ⟨g, o + 5, none⟩ v5 = w.setCells g o [v0, v1, v2, v3, v4, v5] := rfl
theorem own_put6 {base : Nat} {w : World} {g n c : Nat} {M : List Mg} (h : OwnL Mg.cells 6 28 base w (.slice (some ⟨g, 0, none⟩) n c) M) {k : Nat} (hk : k < M.length) (x : Mg) : OwnL Mg.cells 6 28 base (w.setCells g (k * 6) (Mg.cells x)) (.slice (some ⟨g, 0, none⟩) n c) (M.set k x) := by
  obtain ⟨hl, h2⟩ := h
  refine ⟨fl_length _, ?_⟩
  rcases h2 with ⟨e0, _⟩ | ⟨g', cap, cur, ev, hb, hh, hnc, hcm, hcs, htk⟩
  · cases e0
  · injection ev with e1 e2 e3
    injection e1 with e1
    injection e1 with e1
    subst e1
    obtain ⟨q, rfl⟩ : ∃ q : List Value, cur = q.toArray := ⟨cur.toList, by simp⟩
    have hql : q.length = cap * 6 := by simpa using hcs
    rw [List.toList_toArray] at htk
    have hp := heap_cells (Mg.cells x) (k * 6) q w hh (by rw [Mg.cells_len]; omega)
    rw [Mg.cells_len] at hp
    refine .inr ⟨g, cap, _, by rw [List.length_set, e2, e3], hb, hp, by rw [List.length_set]; exact hnc, hcm, ?_, ?_⟩
    · simp only [List.size_toArray, List.length_append, List.length_take, List.length_drop, Mg.cells_len]; omega
    · rw [List.toList_toArray, List.length_set]
      have hfm : q.take (M.length * 6) = fl M := htk
      show _ = fl (M.set k x)
      rw [fl_set M k x hk, ← hfm]
      rw [List.take_take, Nat.min_eq_left (by omega), List.drop_take, List.take_append, List.length_append, List.length_take, Mg.cells_len, Nat.min_eq_left (by omega)]
      rw [List.take_of_length_le (l := q.take (k * 6) ++ Mg.cells x) (by simp only [List.length_append, List.length_take, Mg.cells_len]; omega)]
set_option maxRecDepth 100000 in
set_option maxHeartbeats 6400000 in
theorem turn_hit {w : World} {b : Nat} {rb : Option Nat} {m : Nat} {C : List Mg} {l s : Int} (h : NetW Fr w b rb m C l s) (i k : Nat) (hi : i < C.length) (hk : k < C.length) :
    Calls Try.prog 16 #[.pointer (some ⟨b, 0, none⟩), .int .i64 i, .int .i64 k] w fun e w' => e = .returned (.bool true) ∧ NetW Fr w' b rb m ((C.set i (C[k]'hk)).set k (C[i]'hi)) l s ∧ Sets (NBlk b rb) w w' := by
  obtain ⟨v, M, hV, hrb, hMC⟩ := h.at_
  have hlen : M.length = C.length := by rw [← hMC, List.length_map]
  have hiM : i < M.length := by omega
  have hkM : k < M.length := by omega
  have hC2 : (C.set i (C[k]'hk)).set k (C[i]'hi) = ((M.set i (M[k]'hkM)).set k (M[i]'hiM)).map Mg.bare := by subst hMC; simp [List.map_set]
  have hok2 : ∀ c ∈ (C.set i (C[k]'hk)).set k (C[i]'hi), mokB c = true := fun c hc => by
    rcases List.mem_or_eq_of_mem_set hc with h1 | rfl
    · rcases List.mem_or_eq_of_mem_set h1 with h2 | rfl
      · exact h.ok c h2
      · exact h.ok _ (List.getElem_mem _)
    · exact h.ok _ (List.getElem_mem _)
  rw [hC2] at hok2 ⊢
  have hmem : ∀ z ∈ (M.set i (M[k]'hkM)).set k (M[i]'hiM), z ∈ M := fun z hz => by
    rcases List.mem_or_eq_of_mem_set hz with h1 | rfl
    · rcases List.mem_or_eq_of_mem_set h1 with h2 | rfl
      · exact h2
      · exact List.getElem_mem _
    · exact List.getElem_mem _
  obtain ⟨hlenO, hown⟩ := hV.own
  rcases hown with ⟨_, h0⟩ | ⟨g, c, cur, rfl, hbg, hg, hnc, hcm, hcs, htk⟩
  · omega
  obtain ⟨gr, off, eA, hgr, hcr⟩ := (show RowAt Mg.cells 6 w (some ⟨g, 0, none⟩) M from by
    obtain ⟨A', c', e', hr', _⟩ := hV.slice
    injection e' with e1
    subst e1
    exact hr').at_ hiM
  obtain ⟨rfl, rfl⟩ : g = gr ∧ 0 = off := by injection eA with h; injection h; exact ⟨by assumption, by assumption⟩
  obtain ⟨hbl, ⟨q0, q1, q2, q3⟩, hz⟩ := nw_box hV.box
  have hasi := has_any (i : Int) q1
  rw [hasB_yes hiM] at hasi
  have hask := has_any (k : Int) q1
  rw [hasB_yes hkM] at hask
  have HASI := hide hasi
  have HASK := hide hask
  have hgf : ∀ o, w.frozen? ⟨g, o, none⟩ = false := fun o => by simp [World.frozen?, hg]
  have hxc : ∀ (t : Nat) (ht : t < M.length), w.cell? ⟨g, t * 6, none⟩ = some (.int .i64 M[t].k) ∧ w.cell? ⟨g, t * 6 + 1, none⟩ = some (.int .i64 M[t].f) ∧ w.cell? ⟨g, t * 6 + 2, none⟩ = some (.int .i64 M[t].t) ∧ w.cell? ⟨g, t * 6 + 3, none⟩ = some (.int .u64 M[t].id) ∧ w.cell? ⟨g, t * 6 + 4, none⟩ = some (.int .u64 M[t].n) ∧ w.cell? ⟨g, t * 6 + 5, none⟩ = some (.slice M[t].A M[t].L.length M[t].c) := fun t ht => by
    have hx : ∀ j u, (Mg.cells M[t])[j]? = some u → w.cell? ⟨g, t * 6 + j, none⟩ = some u := fun j u hu => by
      have := hcr t ht j u hu
      simpa using this
    exact ⟨by simpa using hx 0 _ rfl, hx 1 _ rfl, hx 2 _ rfl, hx 3 _ rfl, hx 4 _ rfl, hx 5 _ rfl⟩
  have hxi := hxc i hiM
  have hxk := hxc k hkM
  have HCR := hide hcr
  obtain ⟨x, hx⟩ : ∃ x, M[i]'hiM = x := ⟨_, rfl⟩
  obtain ⟨y, hy⟩ : ∃ y, M[k]'hkM = y := ⟨_, rfl⟩
  rw [hx] at hxi hok2 hmem ⊢
  rw [hy] at hxk hok2 hmem ⊢
  have HC : Hid (∀ W : World, Below w.heap.size w.drew W → W.cell? ⟨b, 1, none⟩ = some (.slice (some ⟨g, 0, none⟩) M.length c) ∧
      (W.cell? ⟨g, i * 6, none⟩ = some (.int .i64 x.k) ∧ W.cell? ⟨g, i * 6 + 1, none⟩ = some (.int .i64 x.f) ∧ W.cell? ⟨g, i * 6 + 2, none⟩ = some (.int .i64 x.t) ∧ W.cell? ⟨g, i * 6 + 3, none⟩ = some (.int .u64 x.id) ∧ W.cell? ⟨g, i * 6 + 4, none⟩ = some (.int .u64 x.n) ∧ W.cell? ⟨g, i * 6 + 5, none⟩ = some (.slice x.A x.L.length x.c)) ∧
      (W.cell? ⟨g, k * 6, none⟩ = some (.int .i64 y.k) ∧ W.cell? ⟨g, k * 6 + 1, none⟩ = some (.int .i64 y.f) ∧ W.cell? ⟨g, k * 6 + 2, none⟩ = some (.int .i64 y.t) ∧ W.cell? ⟨g, k * 6 + 3, none⟩ = some (.int .u64 y.id) ∧ W.cell? ⟨g, k * 6 + 4, none⟩ = some (.int .u64 y.n) ∧ W.cell? ⟨g, k * 6 + 5, none⟩ = some (.slice y.A y.L.length y.c))) := hide (fun W hW => by
    obtain ⟨a0, a1, a2, a3, a4, a5⟩ := hxi
    obtain ⟨b0, b1, b2, b3, b4, b5⟩ := hxk
    exact ⟨ckd hbl q1 hW, ⟨ckd hgr a0 hW, ckd hgr a1 hW, ckd hgr a2 hW, ckd hgr a3 hW, ckd hgr a4 hW, ckd hgr a5 hW⟩, ckd hgr b0 hW, ckd hgr b1 hW, ckd hgr b2 hW, ckd hgr b3 hW, ckd hgr b4 hW, ckd hgr b5 hW⟩)
  have ho1 : OwnL Mg.cells 6 28 (b + 1) ((((((w.setCell ⟨g, i * 6, none⟩ (.int .i64 y.k)).setCell ⟨g, i * 6 + 1, none⟩ (.int .i64 y.f)).setCell ⟨g, i * 6 + 2, none⟩ (.int .i64 y.t)).setCell ⟨g, i * 6 + 3, none⟩ (.int .u64 y.id)).setCell ⟨g, i * 6 + 4, none⟩ (.int .u64 y.n)).setCell ⟨g, i * 6 + 5, none⟩ (.slice y.A y.L.length y.c)).drew (.slice (some ⟨g, 0, none⟩) M.length c) (M.set i y) := own_drew (by
    have h := own_put6 hV.own hiM y
    unfold Mg.cells at h
    rw [← six_sets] at h
    exact h)
  have hs1 : Sets (fun c => c = g) w ((((((w.setCell ⟨g, i * 6, none⟩ (.int .i64 y.k)).setCell ⟨g, i * 6 + 1, none⟩ (.int .i64 y.f)).setCell ⟨g, i * 6 + 2, none⟩ (.int .i64 y.t)).setCell ⟨g, i * 6 + 3, none⟩ (.int .u64 y.id)).setCell ⟨g, i * 6 + 4, none⟩ (.int .u64 y.n)).setCell ⟨g, i * 6 + 5, none⟩ (.slice y.A y.L.length y.c)).drew := ((((((Sets.refl (S := fun c => c = g) w).set (g := g) (fun _ => rfl) (i * 6) _).set (g := g) (fun _ => rfl) (i * 6 + 1) _).set (g := g) (fun _ => rfl) (i * 6 + 2) _).set (g := g) (fun _ => rfl) (i * 6 + 3) _).set (g := g) (fun _ => rfl) (i * 6 + 4) _).set (g := g) (fun _ => rfl) (i * 6 + 5) _ |>.drew
  have hf1 : ∀ o, ((((((w.setCell ⟨g, i * 6, none⟩ (.int .i64 y.k)).setCell ⟨g, i * 6 + 1, none⟩ (.int .i64 y.f)).setCell ⟨g, i * 6 + 2, none⟩ (.int .i64 y.t)).setCell ⟨g, i * 6 + 3, none⟩ (.int .u64 y.id)).setCell ⟨g, i * 6 + 4, none⟩ (.int .u64 y.n)).setCell ⟨g, i * 6 + 5, none⟩ (.slice y.A y.L.length y.c)).drew.frozen? ⟨g, o, none⟩ = false := fun o => by simp [hgf]
  have hkM1 : k < (M.set i y).length := by rw [List.length_set]; exact hkM
  have HO1 := hide ho1
  have HS1 := hide hs1
  have HF1 := hide hf1
  have HXI := hide hxi
  have HV := hide hV
  have HRB := hide hrb
  have HMEM := hide hmem
  have HOK := hide hok2
  have hbg2 : ¬ b = g := by omega
  have hiI : (i : Int) < (M.length : Int) := by omega
  have hkI : (k : Int) < (M.length : Int) := by omega
  have hi0 : (0 : Int) ≤ (i : Int) := by omega
  have hk0 : (0 : Int) ≤ (k : Int) := by omega
  have hgf0 := hgf
  clear ho1 hs1 hf1 hV hrb hMC hC2 hok2 hmem hg hcs htk hcr hxc hxi hxk hlenO hcm q0 q2 q3 hz hlen h hx hy hnc eA
  go_enter Try.func16, Try.ntmps16
  go_wp2_with fail
  refine (Calls.mono HASI.out ?_); rintro e w2 ⟨rfl, rfl⟩
  go_wp2_with fail
  refine (Calls.mono HASK.out ?_); rintro e w3 ⟨rfl, rfl⟩
  go_upto_region 3 with fail
  refine j_start [25, 27, 26, 9] (by kernel_rfl) ?_
  refine' wpAnyJ_takeW (i := 9) (v := _) ?hi9 (by kernel_rfl) (by kernel_rfl) (by kernel_rfl) (by kernel_rfl) (Or.inl ⟨?hw9, ?hy9⟩) ?rest9
  case hi9 => (simp only [List.getElem?_toArray, List.getElem?_cons_succ, List.getElem?_cons_zero]; rfl)
  case hw9 => rfl
  case hy9 => (intro w' hw'; go_simp; try with_reducible rfl)
  try simp only [Act.put, List.setIfInBounds_toArray, List.set_cons_zero, List.set_cons_succ]
  refine' j_take (i := 0) (v := _) [1, 2, 3, 24, 25, 26, 27] ?hi0 (by kernel_rfl) (by kernel_rfl) (by kernel_rfl) (by kernel_rfl) (by kernel_rfl) (Or.inl ⟨?hw0, ?hy0⟩) ?rest0
  case hi0 => (simp only [List.getElem?_toArray, List.getElem?_cons_succ, List.getElem?_cons_zero]; rfl)
  case hw0 => rfl
  case hy0 => (intro w' hw'; go_simp; try with_reducible rfl)
  try simp only [Act.put, List.setIfInBounds_toArray, List.set_cons_zero, List.set_cons_succ]
  refine' j_take (i := 1) (v := _) [2, 3, 24, 25, 26, 27] ?hi1 (by kernel_rfl) (by kernel_rfl) (by kernel_rfl) (by kernel_rfl) (by kernel_rfl) (Or.inl ⟨?hw1, ?hy1⟩) ?rest1
  case hi1 => (simp only [List.getElem?_toArray, List.getElem?_cons_succ, List.getElem?_cons_zero]; rfl)
  case hw1 => rfl
  case hy1 => (intro w' hw'; go_simp; try with_reducible rfl)
  try simp only [Act.put, List.setIfInBounds_toArray, List.set_cons_zero, List.set_cons_succ]
  refine' j_take (i := 2) (v := _) [3, 24, 25, 26, 27] ?hi2 (by kernel_rfl) (by kernel_rfl) (by kernel_rfl) (by kernel_rfl) (by kernel_rfl) (Or.inl ⟨?hw2, ?hy2⟩) ?rest2
  case hi2 => (simp only [List.getElem?_toArray, List.getElem?_cons_succ, List.getElem?_cons_zero]; rfl)
  case hw2 => rfl
  case hy2 => (intro w' hw'; go_simp; try with_reducible rfl)
  try simp only [Act.put, List.setIfInBounds_toArray, List.set_cons_zero, List.set_cons_succ]
  refine' j_take (i := 3) (v := _) [24, 25, 26, 27] ?hi3 (by kernel_rfl) (by kernel_rfl) (by kernel_rfl) (by kernel_rfl) (by kernel_rfl) (Or.inl ⟨?hw3, ?hy3⟩) ?rest3
  case hi3 => (simp only [List.getElem?_toArray, List.getElem?_cons_succ, List.getElem?_cons_zero]; rfl)
  case hw3 => rfl
  case hy3 => (intro w' hw'; have h0 := (HC.out _ hw').1; go_simp; try with_reducible rfl)
  try simp only [Act.put, List.setIfInBounds_toArray, List.set_cons_zero, List.set_cons_succ]
  refine' j_take (i := 4) (v := _) [24, 25, 26, 27] ?hi4 (by kernel_rfl) (by kernel_rfl) (by kernel_rfl) (by kernel_rfl) (by kernel_rfl) (Or.inl ⟨?hw4, ?hy4⟩) ?rest4
  case hi4 => (simp only [List.getElem?_toArray, List.getElem?_cons_succ, List.getElem?_cons_zero]; rfl)
  case hw4 => rfl
  case hy4 => (intro w' hw'; go_simp; try with_reducible rfl)
  try simp only [Act.put, List.setIfInBounds_toArray, List.set_cons_zero, List.set_cons_succ]
  refine' j_take (i := 5) (v := _) [6, 7, 8, 24, 25, 26, 27] ?hi5 (by kernel_rfl) (by kernel_rfl) (by kernel_rfl) (by kernel_rfl) (by kernel_rfl) (Or.inl ⟨?hw5, ?hy5⟩) ?rest5
  case hi5 => (simp only [List.getElem?_toArray, List.getElem?_cons_succ, List.getElem?_cons_zero]; rfl)
  case hw5 => rfl
  case hy5 => (intro w' hw'; go_simp; try with_reducible rfl)
  try simp only [Act.put, List.setIfInBounds_toArray, List.set_cons_zero, List.set_cons_succ]
  refine' j_take (i := 6) (v := _) [7, 8, 24, 25, 26, 27] ?hi6 (by kernel_rfl) (by kernel_rfl) (by kernel_rfl) (by kernel_rfl) (by kernel_rfl) (Or.inl ⟨?hw6, ?hy6⟩) ?rest6
  case hi6 => (simp only [List.getElem?_toArray, List.getElem?_cons_succ, List.getElem?_cons_zero]; rfl)
  case hw6 => rfl
  case hy6 => (intro w' hw'; go_simp; try with_reducible rfl)
  try simp only [Act.put, List.setIfInBounds_toArray, List.set_cons_zero, List.set_cons_succ]
  refine' j_take (i := 7) (v := _) [8, 24, 25, 26, 27] ?hi7 (by kernel_rfl) (by kernel_rfl) (by kernel_rfl) (by kernel_rfl) (by kernel_rfl) (Or.inl ⟨?hw7, ?hy7⟩) ?rest7
  case hi7 => (simp only [List.getElem?_toArray, List.getElem?_cons_succ, List.getElem?_cons_zero]; rfl)
  case hw7 => rfl
  case hy7 => (intro w' hw'; go_simp; try with_reducible rfl)
  try simp only [Act.put, List.setIfInBounds_toArray, List.set_cons_zero, List.set_cons_succ]
  refine' j_take (i := 8) (v := _) [24, 25, 26, 27] ?hi8 (by kernel_rfl) (by kernel_rfl) (by kernel_rfl) (by kernel_rfl) (by kernel_rfl) (Or.inl ⟨?hw8, ?hy8⟩) ?rest8
  case hi8 => (simp only [List.getElem?_toArray, List.getElem?_cons_succ, List.getElem?_cons_zero]; rfl)
  case hw8 => rfl
  case hy8 => (intro w' hw'; have h0 := (HC.out _ hw').1; go_simp; try with_reducible rfl)
  try simp only [Act.put, List.setIfInBounds_toArray, List.set_cons_zero, List.set_cons_succ]
  refine' j_take (i := 10) (v := _) [11, 12, 13, 15, 16, 24, 25, 26, 27] ?hi10 (by kernel_rfl) (by kernel_rfl) (by kernel_rfl) (by kernel_rfl) (by kernel_rfl) (Or.inl ⟨?hw10, ?hy10⟩) ?rest10
  case hi10 => (simp only [List.getElem?_toArray, List.getElem?_cons_succ, List.getElem?_cons_zero]; rfl)
  case hw10 => rfl
  case hy10 => (intro w' hw'; go_simp; try with_reducible rfl)
  try simp only [Act.put, List.setIfInBounds_toArray, List.set_cons_zero, List.set_cons_succ]
  refine' j_take (i := 11) (v := _) [12, 13, 15, 16, 24, 25, 26, 27] ?hi11 (by kernel_rfl) (by kernel_rfl) (by kernel_rfl) (by kernel_rfl) (by kernel_rfl) (Or.inl ⟨?hw11, ?hy11⟩) ?rest11
  case hi11 => (simp only [List.getElem?_toArray, List.getElem?_cons_succ, List.getElem?_cons_zero]; rfl)
  case hw11 => rfl
  case hy11 => (intro w' hw'; go_simp; try with_reducible rfl)
  try simp only [Act.put, List.setIfInBounds_toArray, List.set_cons_zero, List.set_cons_succ]
  refine' j_take (i := 12) (v := _) [13, 15, 16, 24, 25, 26, 27] ?hi12 (by kernel_rfl) (by kernel_rfl) (by kernel_rfl) (by kernel_rfl) (by kernel_rfl) (Or.inl ⟨?hw12, ?hy12⟩) ?rest12
  case hi12 => (simp only [List.getElem?_toArray, List.getElem?_cons_succ, List.getElem?_cons_zero]; rfl)
  case hw12 => rfl
  case hy12 => (intro w' hw'; go_simp; try with_reducible rfl)
  try simp only [Act.put, List.setIfInBounds_toArray, List.set_cons_zero, List.set_cons_succ]
  refine' j_take (i := 13) (v := _) [15, 16, 24, 25, 26, 27] ?hi13 (by kernel_rfl) (by kernel_rfl) (by kernel_rfl) (by kernel_rfl) (by kernel_rfl) (Or.inl ⟨?hw13, ?hy13⟩) ?rest13
  case hi13 => (simp only [List.getElem?_toArray, List.getElem?_cons_succ, List.getElem?_cons_zero]; rfl)
  case hw13 => rfl
  case hy13 => (intro w' hw'; have h0 := (HC.out _ hw').1; go_simp; try with_reducible rfl)
  try simp only [Act.put, List.setIfInBounds_toArray, List.set_cons_zero, List.set_cons_succ]
  refine' j_take (i := 14) (v := _) [15, 16, 24, 25, 26, 27] ?hi14 (by kernel_rfl) (by kernel_rfl) (by kernel_rfl) (by kernel_rfl) (by kernel_rfl) (Or.inl ⟨?hw14, ?hy14⟩) ?rest14
  case hi14 => (simp only [List.getElem?_toArray, List.getElem?_cons_succ, List.getElem?_cons_zero]; rfl)
  case hw14 => rfl
  case hy14 => (intro w' hw'; go_simp; try with_reducible rfl)
  try simp only [Act.put, List.setIfInBounds_toArray, List.set_cons_zero, List.set_cons_succ]
  refine' j_take (i := 15) (v := _) [16, 24, 25, 26, 27] ?hi15 (by kernel_rfl) (by kernel_rfl) (by kernel_rfl) (by kernel_rfl) (by kernel_rfl) (Or.inl ⟨?hw15, ?hy15⟩) ?rest15
  case hi15 => (simp only [List.getElem?_toArray, List.getElem?_cons_succ, List.getElem?_cons_zero]; rfl)
  case hw15 => rfl
  case hy15 => (intro w' hw'; go_simp; try with_reducible rfl)
  try simp only [Act.put, List.setIfInBounds_toArray, List.set_cons_zero, List.set_cons_succ]
  refine' j_take (i := 16) (v := _) [24, 25, 26, 27] ?hi16 (by kernel_rfl) (by kernel_rfl) (by kernel_rfl) (by kernel_rfl) (by kernel_rfl) (Or.inl ⟨?hw16, ?hy16⟩) ?rest16
  case hi16 => (simp only [List.getElem?_toArray, List.getElem?_cons_succ, List.getElem?_cons_zero]; rfl)
  case hw16 => rfl
  case hy16 => (intro w' hw'; obtain ⟨i0, i1, i2, i3, i4, i5⟩ := (HC.out _ hw').2.2; go_simp; try with_reducible rfl)
  try simp only [Act.put, List.setIfInBounds_toArray, List.set_cons_zero, List.set_cons_succ]
  refine' j_take (i := 17) (v := _) [18, 19, 20, 22, 23, 24, 25, 26, 27] ?hi17 (by kernel_rfl) (by kernel_rfl) (by kernel_rfl) (by kernel_rfl) (by kernel_rfl) (Or.inl ⟨?hw17, ?hy17⟩) ?rest17
  case hi17 => (simp only [List.getElem?_toArray, List.getElem?_cons_succ, List.getElem?_cons_zero]; rfl)
  case hw17 => rfl
  case hy17 => (intro w' hw'; go_simp; try with_reducible rfl)
  try simp only [Act.put, List.setIfInBounds_toArray, List.set_cons_zero, List.set_cons_succ]
  refine' j_take (i := 18) (v := _) [19, 20, 22, 23, 24, 25, 26, 27] ?hi18 (by kernel_rfl) (by kernel_rfl) (by kernel_rfl) (by kernel_rfl) (by kernel_rfl) (Or.inl ⟨?hw18, ?hy18⟩) ?rest18
  case hi18 => (simp only [List.getElem?_toArray, List.getElem?_cons_succ, List.getElem?_cons_zero]; rfl)
  case hw18 => rfl
  case hy18 => (intro w' hw'; go_simp; try with_reducible rfl)
  try simp only [Act.put, List.setIfInBounds_toArray, List.set_cons_zero, List.set_cons_succ]
  refine' j_take (i := 19) (v := _) [20, 22, 23, 24, 25, 26, 27] ?hi19 (by kernel_rfl) (by kernel_rfl) (by kernel_rfl) (by kernel_rfl) (by kernel_rfl) (Or.inl ⟨?hw19, ?hy19⟩) ?rest19
  case hi19 => (simp only [List.getElem?_toArray, List.getElem?_cons_succ, List.getElem?_cons_zero]; rfl)
  case hw19 => rfl
  case hy19 => (intro w' hw'; go_simp; try with_reducible rfl)
  try simp only [Act.put, List.setIfInBounds_toArray, List.set_cons_zero, List.set_cons_succ]
  refine' j_take (i := 20) (v := _) [22, 23, 24, 25, 26, 27] ?hi20 (by kernel_rfl) (by kernel_rfl) (by kernel_rfl) (by kernel_rfl) (by kernel_rfl) (Or.inl ⟨?hw20, ?hy20⟩) ?rest20
  case hi20 => (simp only [List.getElem?_toArray, List.getElem?_cons_succ, List.getElem?_cons_zero]; rfl)
  case hw20 => rfl
  case hy20 => (intro w' hw'; have h0 := (HC.out _ hw').1; go_simp; try with_reducible rfl)
  try simp only [Act.put, List.setIfInBounds_toArray, List.set_cons_zero, List.set_cons_succ]
  refine' j_take (i := 21) (v := _) [22, 23, 24, 25, 26, 27] ?hi21 (by kernel_rfl) (by kernel_rfl) (by kernel_rfl) (by kernel_rfl) (by kernel_rfl) (Or.inl ⟨?hw21, ?hy21⟩) ?rest21
  case hi21 => (simp only [List.getElem?_toArray, List.getElem?_cons_succ, List.getElem?_cons_zero]; rfl)
  case hw21 => rfl
  case hy21 => (intro w' hw'; go_simp; try with_reducible rfl)
  try simp only [Act.put, List.setIfInBounds_toArray, List.set_cons_zero, List.set_cons_succ]
  refine' j_take (i := 22) (v := _) [23, 24, 25, 26, 27] ?hi22 (by kernel_rfl) (by kernel_rfl) (by kernel_rfl) (by kernel_rfl) (by kernel_rfl) (Or.inl ⟨?hw22, ?hy22⟩) ?rest22
  case hi22 => (simp only [List.getElem?_toArray, List.getElem?_cons_succ, List.getElem?_cons_zero]; rfl)
  case hw22 => rfl
  case hy22 => (intro w' hw'; go_simp; try with_reducible rfl)
  try simp only [Act.put, List.setIfInBounds_toArray, List.set_cons_zero, List.set_cons_succ]
  refine' j_take (i := 23) (v := _) [24, 25, 26, 27] ?hi23 (by kernel_rfl) (by kernel_rfl) (by kernel_rfl) (by kernel_rfl) (by kernel_rfl) (Or.inl ⟨?hw23, ?hy23⟩) ?rest23
  case hi23 => (simp only [List.getElem?_toArray, List.getElem?_cons_succ, List.getElem?_cons_zero]; rfl)
  case hw23 => rfl
  case hy23 => (intro w' hw'; obtain ⟨i0, i1, i2, i3, i4, i5⟩ := (HC.out _ hw').2.1; go_simp; try with_reducible rfl)
  try simp only [Act.put, List.setIfInBounds_toArray, List.set_cons_zero, List.set_cons_succ]
  refine' j_take (i := 24) (v := _) [25, 26, 27] ?hi24 (by kernel_rfl) (by kernel_rfl) (by kernel_rfl) (by kernel_rfl) (by kernel_rfl) (Or.inl ⟨?hw24, ?hy24⟩) ?rest24
  case hi24 => (simp only [List.getElem?_toArray, List.getElem?_cons_succ, List.getElem?_cons_zero]; rfl)
  case hw24 => rfl
  case hy24 => (intro w' hw'; go_simp; try with_reducible rfl)
  try simp only [Act.put, List.setIfInBounds_toArray, List.set_cons_zero, List.set_cons_succ]
  refine' wpAnyJ_last (i := 25) (o := _) (by kernel_rfl) ?ho25 (by kernel_rfl) (fun K hK => ?step25)
  case ho25 => (simp only [List.getElem?_toArray, List.getElem?_cons_succ, List.getElem?_cons_zero]; rfl)
  obtain ⟨a0, a1, a2, a3, a4, a5⟩ := HXI.out
  go_simp
  refine hK.out _ _ ?_
  clear hK K a0 a1 a2 a3 a4 a5
  obtain ⟨w4, hw4⟩ : ∃ w4, ((((((w3.setCell ⟨g, i * 6, none⟩ (.int .i64 y.k)).setCell ⟨g, i * 6 + 1, none⟩ (.int .i64 y.f)).setCell ⟨g, i * 6 + 2, none⟩ (.int .i64 y.t)).setCell ⟨g, i * 6 + 3, none⟩ (.int .u64 y.id)).setCell ⟨g, i * 6 + 4, none⟩ (.int .u64 y.n)).setCell ⟨g, i * 6 + 5, none⟩ (.slice y.A y.L.length y.c)).drew = w4 := ⟨_, rfl⟩
  try rw [hw4]
  have HO4 : Hid (OwnL Mg.cells 6 28 (b + 1) w4 (.slice (some ⟨g, 0, none⟩) M.length c) (M.set i y)) := hide (by rw [← hw4]; exact HO1.out)
  have HS4 : Hid (Sets (fun c => c = g) w3 w4) := hide (by rw [← hw4]; exact HS1.out)
  have hg4 : ∀ o, w4.frozen? ⟨g, o, none⟩ = false := (by rw [← hw4]; exact HF1.out)
  obtain ⟨b0, b1, b2, b3, b4, b5⟩ := row6 HO4.out hkM1
  clear hw4 HO1 HS1 HF1
  try simp only [Act.put, List.setIfInBounds_toArray, List.set_cons_zero, List.set_cons_succ]
  refine' wpAnyJ_last (i := 26) (o := _) (by kernel_rfl) ?ho26 (by kernel_rfl) (fun K hK => ?step26)
  case ho26 => (simp only [List.getElem?_toArray, List.getElem?_cons_succ, List.getElem?_cons_zero]; rfl)
  go_simp
  refine hK.out _ _ ?_
  clear hK K
  try simp only [Act.put, List.setIfInBounds_toArray, List.set_cons_zero, List.set_cons_succ]
  refine' wpAnyJ_last (i := 27) (o := _) (by kernel_rfl) ?ho27 (by kernel_rfl) (fun K hK => ?step27)
  case ho27 => (simp only [List.getElem?_toArray, List.getElem?_cons_succ, List.getElem?_cons_zero]; rfl)
  go_simp
  refine hK.out _ _ ?_
  clear hK K
  try simp only [Act.put, List.setIfInBounds_toArray, List.set_cons_zero, List.set_cons_succ]
  refine wpAnyJ_done (by kernel_rfl) ?_ _
  refine NoPanic.normal ?_
  have hof : OwnL Mg.cells 6 28 (b + 1) ((((((w4.setCell ⟨g, k * 6, none⟩ (.int .i64 x.k)).setCell ⟨g, k * 6 + 1, none⟩ (.int .i64 x.f)).setCell ⟨g, k * 6 + 2, none⟩ (.int .i64 x.t)).setCell ⟨g, k * 6 + 3, none⟩ (.int .u64 x.id)).setCell ⟨g, k * 6 + 4, none⟩ (.int .u64 x.n)).setCell ⟨g, k * 6 + 5, none⟩ (.slice x.A x.L.length x.c)) (.slice (some ⟨g, 0, none⟩) M.length c) ((M.set i y).set k x) := (by
    have h := own_put6 HO4.out hkM1 x
    unfold Mg.cells at h
    rw [← six_sets] at h
    exact h)
  have hs5 : Sets (fun c => c = g) w4 ((((((w4.setCell ⟨g, k * 6, none⟩ (.int .i64 x.k)).setCell ⟨g, k * 6 + 1, none⟩ (.int .i64 x.f)).setCell ⟨g, k * 6 + 2, none⟩ (.int .i64 x.t)).setCell ⟨g, k * 6 + 3, none⟩ (.int .u64 x.id)).setCell ⟨g, k * 6 + 4, none⟩ (.int .u64 x.n)).setCell ⟨g, k * 6 + 5, none⟩ (.slice x.A x.L.length x.c)) := (((((Sets.refl (S := fun c => c = g) w4).set (g := g) (fun _ => rfl) (k * 6) _).set (g := g) (fun _ => rfl) (k * 6 + 1) _).set (g := g) (fun _ => rfl) (k * 6 + 2) _).set (g := g) (fun _ => rfl) (k * 6 + 3) _).set (g := g) (fun _ => rfl) (k * 6 + 4) _ |>.set (g := g) (fun _ => rfl) (k * 6 + 5) _
  have hall := HS4.out.trans hs5 (fun _ _ h => h)
  have hfv : NetV Fr ((((((w4.setCell ⟨g, k * 6, none⟩ (.int .i64 x.k)).setCell ⟨g, k * 6 + 1, none⟩ (.int .i64 x.f)).setCell ⟨g, k * 6 + 2, none⟩ (.int .i64 x.t)).setCell ⟨g, k * 6 + 3, none⟩ (.int .u64 x.id)).setCell ⟨g, k * 6 + 4, none⟩ (.int .u64 x.n)).setCell ⟨g, k * 6 + 5, none⟩ (.slice x.A x.L.length x.c)) b (.slice (some ⟨g, 0, none⟩) M.length c) m ((M.set i y).set k x) l s := ⟨(hall.block b hbl (fun e => hbg2 e)).trans HV.out.box, hof, fun z hz => by
    have h0 := HV.out.rd z (HMEM.out z hz)
    exact ⟨h0.1.sets hall (fun a ha hn e => (h0.2 a ha hn).2 (by rw [e]; rfl)), h0.2⟩, fun z hz => HV.out.pd z (HMEM.out z hz)⟩
  have HFV := hide hfv
  have HAL := hide hall
  clear hof hs5 hall hfv b0 b1 b2 b3 b4 b5 HO4 HS4
  go_wp2_with fail
  go_ret
  exact ⟨rfl, ⟨⟨_, _, HFV.out, HRB.out, rfl⟩, HOK.out⟩, (Sets.refl (S := NBlk b rb) w3).trans HAL.out (fun q _ e => .inr (by rw [← HRB.out, e]; rfl))⟩
end Go.Proofs.Ytihhepojhoaacaa
