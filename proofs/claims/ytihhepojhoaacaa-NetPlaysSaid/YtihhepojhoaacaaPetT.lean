/- net.Net: Take, Drop: contracts. Conditions: the net as it lies. -/
import Derived.Test.YtihhepojhoaacaaPet
namespace Go.Proofs.Ytihhepojhoaacaa
set_option linter.unusedVariables false
set_option linter.unusedSimpArgs false
open Go.ChangeShapes Go.WideShapes Go.ChangeAt Go.RowKit
variable {Fr : Nat → Prop}

theorem Sets.set6 {S : Nat → Prop} {w w' : World} (h : Sets S w w') {g : Nat} (hg : g < w.heap.size → S g) (v0 v1 v2 v3 v4 v5 : Value) : Sets S w ((((((w'.setCell ⟨g, 0, none⟩ v0).setCell ⟨g, 1, none⟩ v1).setCell ⟨g, 2, none⟩ v2).setCell ⟨g, 3, none⟩ v3).setCell ⟨g, 4, none⟩ v4).setCell ⟨g, 5, none⟩ v5) :=
  (((((h.set hg 0 v0).set hg 1 v1).set hg 2 v2).set hg 3 v3).set hg 4 v4).set hg 5 v5
theorem Sets.grown {w w' : World} {row : Option Nat} (h : w.grownBy w' row) : Sets (fun c => row = some c) w w' := ⟨h.os, h.tape, h.output, h.size, fun i hi hs => h.block i hi (fun e => hs e.symm)⟩
theorem Mg.rd.sets {S : Nat → Prop} {w w' : World} {x : Mg} (h : x.rd w) (k : Sets S w w') (hS : ∀ a, x.A = some a → x.L ≠ [] → ¬ S a.block) : x.rd w' := ⟨h.1.sets k hS, h.2⟩
theorem Mg.rd.lt {w : World} {x : Mg} (h : x.rd w) : ∀ a, x.A = some a → x.L ≠ [] → a.block < w.heap.size := fun a ha hn => by
  obtain ⟨b', off, e, hlt, _⟩ := h.1 hn
  rw [ha] at e
  obtain rfl := Option.some.inj e
  exact hlt
theorem map_erase (f : Mg → Mg) : ∀ (M : List Mg) (i : Nat), (M.map f).eraseIdx i = (M.eraseIdx i).map f
  | [], _ => rfl
  | _ :: _, 0 => rfl
  | a :: M, i + 1 => by simp only [List.map_cons, List.eraseIdx_cons_succ, map_erase f M i]
abbrev zMg : Mg := ⟨0, 0, 0, 0, 0, none, 0, []⟩
/-- A net that was taken along: its parts in a later world. -/
theorem NetV.sets {S : Nat → Prop} {w w' : World} {b : Nat} {v : Value} {m : Nat} {M : List Mg} {l s : Int} (h : NetV Fr w b v m M l s) (k : Sets S w w') (hb : ¬ S b) (hv : ∀ g, v.ownBlock = some g → ¬ S g) (hx : ∀ x ∈ M, ∀ a, x.A = some a → x.L ≠ [] → ¬ S a.block) : NetV Fr w' b v m M l s :=
  ⟨(k.block b (Array.getElem?_eq_some_iff.1 h.box).1 hb).trans h.box, OwnL.sets h.own k hv, fun x hx' => ⟨(h.rd x hx').1.sets k (hx x hx'), (h.rd x hx').2⟩, h.pd⟩
theorem NetW.sets {S : Nat → Prop} {w w' : World} {b : Nat} {rb : Option Nat} {m : Nat} {C : List Mg} {l s : Int} (h : NetW Fr w b rb m C l s) (k : Sets S w w') (hS : ∀ c, c < w.heap.size → b ≤ c → ¬ S c) : NetW Fr w' b rb m C l s := by
  obtain ⟨v, M, h1, rfl, h3⟩ := h.at_
  exact ⟨⟨v, M, h1.sets k (hS b h.lt (Nat.le_refl _)) (fun g hg => hS g (h.row_lt g hg).2 (Nat.le_of_lt (h.row_lt g hg).1)) (fun x hx a ha hn => by
    have := (h1.rd x hx).2 a ha hn
    exact hS a.block ((h1.rd x hx).1.lt a ha hn) (by omega)), rfl, h3⟩, h.ok⟩
set_option maxRecDepth 100000 in
set_option maxHeartbeats 3200000 in
theorem take_hit {w : World} {b : Nat} {rb : Option Nat} {m : Nat} {C : List Mg} {l s : Int} (h : NetW Fr w b rb m C l s) (i : Nat) (hi : i < C.length) :
    Calls Try.prog 10 #[.pointer (some ⟨b, 0, none⟩), .int .i64 i] w fun e w' => ∃ (x : Mg) (rb' : Option Nat), e = .returned (.tuple #[x.val, .bool true]) ∧ x.bare = C[i]'hi ∧ x.rd w' ∧ NetW Fr w' b rb' m (C.eraseIdx i) l s ∧ Sets (NBlk b rb) w w' ∧ MovedB w rb rb' := by
  obtain ⟨v, M, hV, hrb, hMC⟩ := h.at_
  have hlen : M.length = C.length := by rw [← hMC, List.length_map]
  have hiM : i < M.length := by omega
  have hCe : C.eraseIdx i = (M.eraseIdx i).map Mg.bare := by rw [← hMC, map_erase]
  have hCi : C[i]'hi = (M[i]'hiM).bare := by subst hMC; simp
  have hok2 : ∀ c ∈ C.eraseIdx i, mokB c = true := fun c hc => h.ok c (List.mem_of_mem_eraseIdx hc)
  rw [hCi, hCe]
  rw [hCe] at hok2
  have hxr := hV.rd M[i] (List.getElem_mem _)
  obtain ⟨A, c, rfl, hrow, hnc, hcm⟩ := hV.slice
  obtain ⟨gr, off, rfl, hgr, hcr⟩ := hrow.at_ hiM
  have hba := below_alloc (Below.refl w.heap.size w) (.cells #[.int .i64 0, .int .i64 0, .int .i64 0, .int .u64 0, .int .u64 0, .slice none 0 0] 28)
  have hz1 := heap_alloc_new w (.cells #[.int .i64 0, .int .i64 0, .int .i64 0, .int .u64 0, .int .u64 0, .slice none 0 0] 28)
  obtain ⟨w1, hw1⟩ : ∃ w1, w.alloc (.cells #[.int .i64 0, .int .i64 0, .int .i64 0, .int .u64 0, .int .u64 0, .slice none 0 0] 28) = w1 := ⟨_, rfl⟩
  rw [hw1] at hba hz1
  have hV1 := hV.below hba
  obtain ⟨hbl, ⟨q0, q1, q2, q3⟩, hz⟩ := nw_box hV1.box
  have HAS := hide (has_any (i : Int) q1)
  have hhas : hasB M.length i = true := by simp [hasB, hiM]
  rw [hhas] at HAS
  obtain ⟨x, hx⟩ : ∃ x, M[i]'hiM = x := ⟨_, rfl⟩
  rw [hx] at hxr ⊢
  have hxc : ∀ j u, (Mg.cells x)[j]? = some u → w1.cell? ⟨gr, off + i * 6 + j, none⟩ = some u := fun j u hu => keep_cell hba (hcr i hiM j u (by rw [hx]; exact hu)) hgr
  have y0 := hxc 0 _ rfl
  have y1 := hxc 1 _ rfl
  have y2 := hxc 2 _ rfl
  have y3 := hxc 3 _ rfl
  have y4 := hxc 4 _ rfl
  have y5 := hxc 5 _ rfl
  simp only [Nat.add_zero] at y0
  have hl1 : w.heap.size < w1.heap.size := (Array.getElem?_eq_some_iff.1 hz1).1
  have hbb := below_alloc (Below.refl w1.heap.size w1) (.cells #[.int .i64 x.k, .int .i64 x.f, .int .i64 x.t, .int .u64 x.id, .int .u64 x.n, .slice x.A x.L.length x.c] 28)
  have hz2 := heap_alloc_new w1 (.cells #[.int .i64 x.k, .int .i64 x.f, .int .i64 x.t, .int .u64 x.id, .int .u64 x.n, .slice x.A x.L.length x.c] 28)
  have HD := hide (delm_any (OwnL.below hV1.own hbb) i hiM)
  have HBA := hide hba
  have HBB := hide hbb
  have HZ1 := hide hz1
  have HZ2 := hide hz2
  have HXR := hide hxr
  have HV := hide hV
  have HOK := hide hok2
  have hlb := h.lt
  have HRL := hide h.row_lt
  have HRB := hide hrb
  obtain ⟨n, hn⟩ : ∃ n, M.length = n := ⟨_, rfl⟩
  have HN := hide hn
  rw [hn] at q1 HD hnc hiM hrb
  have HVB : Hid ((Value.slice (some ⟨gr, off, none⟩) n c).ownBlock = rb) := hide hrb
  have hiI : (i : Int) < (n : Int) := by omega
  have hi0 : (0 : Int) ≤ (i : Int) := by omega
  have hi1 : IntKind.i64.wrap ((i : Int) + 1) = (i : Int) + 1 := by unfold maxLen at hcm; rw [IntKind.wrap_i64]; omega
  have HW1 := hide hw1
  clear hMC hlen hCe hCi hok2 hrow hcr hV hV1 hxc hhas hba hbb hz1 hz2 hxr hrb hn hcm hnc q0 q2 q3 hz h hx
  go_enter Try.func10, Try.ntmps10
  go_upto_region 1 with fail
  try rw [HW1.out]
  clear HW1 hw1
  go_wp2_with (go_at_call 25; refine (Calls.mono HAS.out ?_); rintro e w2 ⟨rfl, rfl⟩)
  refine (Calls.mono HD.out ?_); rintro e w3 ⟨v3, rfl, ho3, hg3, hm3⟩
  obtain ⟨A3, c3, rfl, hr3, _, hc3, hcm3⟩ := OwnL.row Mg.cells_len ho3
  have hvr : ∀ q, (Value.slice (some ⟨gr, off, none⟩) n c).ownBlock = some q → b < q ∧ q < w.heap.size := fun q hq => HRL.out q (by rw [← HVB.out]; exact hq)
  have hbl2 : b < (w2.alloc (.cells #[.int .i64 x.k, .int .i64 x.f, .int .i64 x.t, .int .u64 x.id, .int .u64 x.n, .slice x.A x.L.length x.c] 28)).heap.size := Nat.lt_of_lt_of_le hlb (Nat.le_trans HBA.out.size HBB.out.size)
  have hbx3 := (hg3.block b hbl2 (fun e => by have := hvr b e.symm; omega)).trans ((HBB.out.block b (Nat.lt_of_lt_of_le hlb HBA.out.size)).trans ((HBA.out.block b hlb).trans HV.out.box))
  have hzz1 := (hg3.block w.heap.size (Nat.lt_of_lt_of_le hl1 HBB.out.size) (fun e => by have := hvr _ e.symm; omega)).trans ((HBB.out.block _ hl1).trans HZ1.out)
  have hzz2 := (hg3.block w2.heap.size (Array.getElem?_eq_some_iff.1 HZ2.out).1 (fun e => by have := hvr _ e.symm; have := HBA.out.size; omega)).trans HZ2.out
  have hlE : (M.eraseIdx i).length = n - 1 := by rw [List.length_eraseIdx_of_lt (by rw [HN.out]; exact hiM), HN.out]
  rw [hlE] at ho3 hm3 hc3 ⊢
  have HO3 := hide ho3
  have HG3 := hide hg3
  have HM3 := hide hm3
  have HX3 := hide hbx3
  have HZZ1 := hide hzz1
  obtain ⟨bl3, ⟨p0, p1, p2, p3⟩, pz⟩ := nw_box hbx3
  obtain ⟨s0, s1, s2, s3, s4, s5⟩ := six_cells hzz1
  obtain ⟨t0, t1, t2, t3, t4, t5⟩ := six_cells hzz2
  have sf : ∀ o, w3.frozen? ⟨w.heap.size, o, none⟩ = false := fun o => by simp [World.frozen?, hzz1]
  have hne1 : ¬ b = w.heap.size := by omega
  have hne2 : ¬ b = w2.heap.size := by omega
  have hne3 : ¬ w2.heap.size = b := by omega
  have hne4 : ¬ w.heap.size = b := by omega
  obtain ⟨g, hgg⟩ : ∃ g, w.heap.size = g := ⟨_, rfl⟩
  obtain ⟨g2, hgg2⟩ : ∃ g, w2.heap.size = g := ⟨_, rfl⟩
  have hgne : ¬ g = g2 := by omega
  have hgne2 : ¬ g2 = g := by omega
  have HGG := hide hgg
  rw [hgg] at s0 s1 s2 s3 s4 s5 sf hne1 hne4 HZZ1 ⊢
  rw [hgg2] at t0 t1 t2 t3 t4 t5 hne2 hne3 ⊢
  have pz1 := pz 1
  have hr6 := put6m (w := w3.setCell ⟨b, 1, none⟩ (.slice A3 (n - 1) c3)) (.int .i64 x.k) (.int .i64 x.f) (.int .i64 x.t) (.int .u64 x.id) (.int .u64 x.n) (.slice x.A x.L.length x.c) ((Below.heap_setCell w3 ⟨b, 1, none⟩ (.slice A3 (n - 1) c3) g (fun e => hne4 (by simpa using e))).trans HZZ1.out)
  obtain ⟨r0, r1, r2, r3, r4, r5⟩ := six_cells hr6
  have R0 := hide r0; have R1 := hide r1; have R2 := hide r2; have R3 := hide r3; have R4 := hide r4; have R5 := hide r5
  have hk1 : Sets (NBlk b rb) w w3 := ((Sets.of (S := NBlk b rb) HBA.out).trans (Sets.of (S := fun _ => False) HBB.out) (fun _ _ h => h.elim)).trans (Sets.grown HG3.out) (fun q _ e => .inr (by rw [← HVB.out]; exact e))
  have hk2 : Sets (NBlk b rb) w (w3.setCell ⟨b, 1, none⟩ (.slice A3 (n - 1) c3)) := hk1.set (fun _ => .inl rfl) 1 _
  have hk3 := Sets.set6 (S := fun c => c = g) (Sets.refl (w3.setCell ⟨b, 1, none⟩ (.slice A3 (n - 1) c3))) (g := g) (fun _ => rfl) (.int .i64 x.k) (.int .i64 x.f) (.int .i64 x.t) (.int .u64 x.id) (.int .u64 x.n) (.slice x.A x.L.length x.c)
  have HFS := hide (hk2.trans hk3 (fun q hq e => absurd hq (by have := HGG.out; omega)))
  have hvn : ∀ j, j ≤ b ∨ w.heap.size ≤ j → (Value.slice A3 (n - 1) c3).ownBlock ≠ some j := fun j hj e => by
    have := hvr j (by rw [← HM3.out]; exact e)
    omega
  have HFN : Hid (NetV Fr (((((((w3.setCell ⟨b, 1, none⟩ (.slice A3 (n - 1) c3)).setCell ⟨g, 0, none⟩ (.int .i64 x.k)).setCell ⟨g, 1, none⟩ (.int .i64 x.f)).setCell ⟨g, 2, none⟩ (.int .i64 x.t)).setCell ⟨g, 3, none⟩ (.int .u64 x.id)).setCell ⟨g, 4, none⟩ (.int .u64 x.n)).setCell ⟨g, 5, none⟩ (.slice x.A x.L.length x.c)) b (.slice A3 (n - 1) c3) m (M.eraseIdx i) l s) := hide (by
    refine NetV.sets (S := fun c => c = g) (w := w3.setCell ⟨b, 1, none⟩ (.slice A3 (n - 1) c3)) ⟨nw_put1 _ HX3.out, OwnL.setFar HO3.out (hvn b (.inl (Nat.le_refl _))) _, fun y hy => ?_, fun y hy => HV.out.pd y (List.mem_of_mem_eraseIdx hy)⟩ hk3 (fun e => hne1 e) (fun q hq e => hvn q (.inr (by have := HGG.out; omega)) hq) (fun y hy a ha hn e => ?_)
    · have hy0 := HV.out.rd y (List.mem_of_mem_eraseIdx hy)
      refine ⟨hy0.1.sets hk2 (fun a ha hn hs => ?_), fun a ha hn => ⟨(hy0.2 a ha hn).1, fun e => (hy0.2 a ha hn).2 (by rw [HN.out, ← HM3.out]; exact e)⟩⟩
      have h2 := hy0.2 a ha hn
      rcases hs with hs | hs
      · omega
      · exact h2.2 (by rw [HN.out, HVB.out]; exact hs)
    · have hy0 := HV.out.rd y (List.mem_of_mem_eraseIdx hy)
      have := hy0.1.lt a ha hn
      have := HGG.out
      omega)
  have HFX : Hid (x.rd (((((((w3.setCell ⟨b, 1, none⟩ (.slice A3 (n - 1) c3)).setCell ⟨g, 0, none⟩ (.int .i64 x.k)).setCell ⟨g, 1, none⟩ (.int .i64 x.f)).setCell ⟨g, 2, none⟩ (.int .i64 x.t)).setCell ⟨g, 3, none⟩ (.int .u64 x.id)).setCell ⟨g, 4, none⟩ (.int .u64 x.n)).setCell ⟨g, 5, none⟩ (.slice x.A x.L.length x.c))) := hide (by
    refine HXR.out.1.sets HFS.out (fun a ha hn hs => ?_)
    have h2 := HXR.out.2 a ha hn
    rcases hs with hs | hs
    · omega
    · exact h2.2 (by rw [HN.out, HVB.out]; exact hs))
  have HMV : Hid ((Value.slice A3 (n - 1) c3).ownBlock = rb) := hide (by rw [HM3.out, HVB.out])
  clear hbx3 hzz1 hzz2 hk1 hk2 hk3 hr6 r0 r1 r2 r3 r4 r5 ho3 hg3 hm3 hr3 pz hvn hvr y0 y1 y2 y3 y4 y5 hgg hgg2 HD HAS
  go_wp2_with fail
  refine bodyPost_ret (v := .tuple #[x.val, .bool true]) (by simp [results, Try.results10, go_sem, R0.out, R1.out, R2.out, R3.out, R4.out, R5.out]) rfl ?_
  exact ⟨x, rb, rfl, rfl, HFX.out, ⟨⟨_, _, HFN.out, HMV.out, rfl⟩, HOK.out⟩, HFS.out, .inl rfl⟩
end Go.Proofs.Ytihhepojhoaacaa
