/- net.Net.List; the document's SameMsgs: contracts. Conditions: the net as it lies; the messages readable. -/
import Derived.Test.YtihhepojhoaacaaPetO
namespace Go.Proofs.Ytihhepojhoaacaa
set_option linter.unusedVariables false
set_option linter.unusedSimpArgs false
open Go.ChangeShapes Go.WideShapes Go.ChangeAt Go.RowKit
variable {Fr : Nat → Prop}

theorem mg_row {w w' : World} {A : Option Addr} {M : List Mg} (h : RowAt Mg.cells 6 w A M) (hb : Below w.heap.size w w') {k : Nat} (hk : k < M.length) :
    ∃ g off, A = some ⟨g, off, none⟩ ∧ g < w.heap.size ∧ w'.cell? ⟨g, off + k * 6, none⟩ = some (.int .i64 (M[k]).k) ∧ w'.cell? ⟨g, off + k * 6 + 1, none⟩ = some (.int .i64 (M[k]).f) ∧ w'.cell? ⟨g, off + k * 6 + 2, none⟩ = some (.int .i64 (M[k]).t) ∧
      w'.cell? ⟨g, off + k * 6 + 3, none⟩ = some (.int .u64 (M[k]).id) ∧ w'.cell? ⟨g, off + k * 6 + 4, none⟩ = some (.int .u64 (M[k]).n) ∧ w'.cell? ⟨g, off + k * 6 + 5, none⟩ = some (.slice (M[k]).A (M[k]).L.length (M[k]).c) := by
  obtain ⟨g, off, rfl, hlt, hc⟩ := h.at_ hk
  have hx : ∀ j u, (Mg.cells M[k])[j]? = some u → w'.cell? ⟨g, off + k * 6 + j, none⟩ = some u := fun j u hu => keep_cell hb (hc k hk j u hu) hlt
  exact ⟨g, off, rfl, hlt, by simpa using hx 0 _ rfl, hx 1 _ rfl, hx 2 _ rfl, hx 3 _ rfl, hx 4 _ rfl, hx 5 _ rfl⟩
set_option maxRecDepth 100000 in
set_option maxHeartbeats 3200000 in
theorem samems_eq (A B : Option Addr) (c d : Nat) (M N : List Mg) (w : World) (hA : RowAt Mg.cells 6 w A M) (hB : RowAt Mg.cells 6 w B N) (hM : ∀ x ∈ M, x.rd w) (hN : ∀ x ∈ N, x.rd w) (he : M.map Mg.bare = N.map Mg.bare) (hl : M.length ≤ 1000000) (hi : ∀ x ∈ M, x.L.length ≤ 1000000) :
    Calls Try.prog 20 #[.slice A M.length c, .slice B N.length d] w fun e w' => e = .returned (.bool true) ∧ Below w.heap.size w w' := by
  have hlen : N.length = M.length := by have := congrArg List.length he; simpa using this.symm
  have HA := hide hA
  have HB := hide hB
  have HM := hide hM
  have HN := hide hN
  have HI := hide hi
  have HE : Hid (∀ (k : Nat) (h1 : k < M.length) (h2 : k < N.length), Mg.same M[k] N[k]) := hide (fun k h1 h2 => by
    have h3 : (M.map Mg.bare)[k]'(by simpa using h1) = (N.map Mg.bare)[k]'(by simpa using h2) := by simp only [he]
    simp only [List.getElem_map] at h3
    exact (bare_same _).trans (by rw [h3]; exact (bare_same _).symm))
  obtain ⟨n, hn⟩ : ∃ n, M.length = n := ⟨_, rfl⟩
  have HLN := hide hn
  have HLM := hide (hlen.trans hn)
  rw [hlen, hn]
  rw [hn] at hl
  clear hA hB hM hN he hi hlen hn
  have hnn : ((n : Int) != (n : Int)) = false := by simp
  go_enter Try.func20, Try.ntmps20
  go_wp2_with fail
  go_loopw [5] (fun i wr => ∃ k : Nat, i = .int .i64 k ∧ k ≤ n ∧ Below w.heap.size w wr) (fun i _ => n - (intOf i).toNat)
  case atStart => exact ⟨0, rfl, by omega, Below.refl _ _⟩
  case round =>
    obtain ⟨k, rfl, hk, hb⟩ := hrel
    obtain ⟨wq, rfl⟩ : ∃ wq, wq = wr := ⟨_, rfl⟩
    have HBQ := hide hb
    clear hb
    by_cases hkn : k < n
    · have hkI : (k : Int) < (n : Int) := by omega
      have hk0 : (0 : Int) ≤ (k : Int) := by omega
      have h1 : k < M.length := by rw [HLN.out]; exact hkn
      have h2 : k < N.length := by rw [HLM.out]; exact hkn
      obtain ⟨ga, oa, rfl, hga, a0, a1, a2, a3, a4, a5⟩ := mg_row HA.out HBQ.out h1
      obtain ⟨gb, ob, rfl, hgb, b0, b1, b2, b3, b4, b5⟩ := mg_row HB.out HBQ.out h2
      have hs := HE.out k h1 h2
      have hrm := HM.out M[k] (List.getElem_mem _)
      have hrn := HN.out N[k] (List.getElem_mem _)
      have hil := HI.out M[k] (List.getElem_mem _)
      have hga2 : ga < wq.heap.size := Nat.lt_of_lt_of_le hga HBQ.out.size
      have hgb2 : gb < wq.heap.size := Nat.lt_of_lt_of_le hgb HBQ.out.size
      generalize M[k] = x at *
      generalize N[k] = y at *
      have HS : Hid (∀ W : World, Below wq.heap.size wq W → Calls Try.prog 19 #[x.val, y.val] W fun e w' => e = .returned (.bool true) ∧ Below W.heap.size W w') := hide (fun W hW => by
        have h := samem_any x y W (hrm.1.below (below_step HBQ.out hW)) (hrn.1.below (below_step HBQ.out hW)) (by omega) (by rw [← hs.2.2.2.2.2]; omega)
        rw [sameMB_iff.2 hs] at h
        exact h)
      have ra0 := fun s : Near wq => s.cell a0 hga2
      have ra1 := fun s : Near wq => s.cell a1 hga2
      have ra2 := fun s : Near wq => s.cell a2 hga2
      have ra3 := fun s : Near wq => s.cell a3 hga2
      have ra4 := fun s : Near wq => s.cell a4 hga2
      have ra5 := fun s : Near wq => s.cell a5 hga2
      have rb0 := fun s : Near wq => s.cell b0 hgb2
      have rb1 := fun s : Near wq => s.cell b1 hgb2
      have rb2 := fun s : Near wq => s.cell b2 hgb2
      have rb3 := fun s : Near wq => s.cell b3 hgb2
      have rb4 := fun s : Near wq => s.cell b4 hgb2
      have rb5 := fun s : Near wq => s.cell b5 hgb2
      clear hs hrm hrn hil h1 h2
      go_wp2_with fail
      refine wp_region_near (by kernel_rfl) (by kernel_rfl) ?_
      repeat (go_big_quiet_step ((first | (go_at_call 19; exact near_of (HS.out _ (Near.is _))))))
      refine wpQuiet_nil ?_
      intro _ hw'
      obtain ⟨s1, rfl⟩ := hw'
      clear ra0 ra1 ra2 ra3 ra4 ra5 rb0 rb1 rb2 rb3 rb4 rb5 a0 a1 a2 a3 a4 a5 b0 b1 b2 b3 b4 b5
      go_wp2_with fail
      go_roundw
      case rel => exact ⟨k + 1, by go_num, by omega, below_step HBQ.out s1.is⟩
      case measure => (simp [intOf] <;> omega)
    · obtain rfl : k = n := by omega
      have hkI : ¬ (k : Int) < (k : Int) := by omega
      go_wp2_with fail
      go_ret
      exact ⟨rfl, HBQ.out⟩
set_option maxRecDepth 100000 in
set_option maxHeartbeats 3200000 in
theorem nlist_any {w : World} {b : Nat} {rb : Option Nat} {m : Nat} {C : List Mg} {l s : Int} (h : NetW Fr w b rb m C l s) (hC : C.length ≤ 100000) : Calls Try.prog 21 #[.pointer (some ⟨b, 0, none⟩)] w fun e w' => ∃ (A : Option Addr) (c : Nat) (N : List Mg), e = .returned (.slice A N.length c) ∧ RowAt Mg.cells 6 w' A N ∧ N.map Mg.bare = C ∧ (∀ x ∈ N, x.rd w') ∧ Below w.heap.size w w' := by
  obtain ⟨v, M, hV, _, hMC⟩ := h.at_
  have hlen : M.length = C.length := by rw [← hMC, List.length_map]
  have hil : ∀ x ∈ M, x.L.length ≤ 1500 := fun x hx => by
    have h1 := h.ok x.bare (by rw [← hMC]; exact List.mem_map.2 ⟨x, hx, rfl⟩)
    unfold mokB at h1
    simp only [Bool.and_eq_true, decide_eq_true_eq] at h1
    exact h1.1.1.2
  obtain ⟨A, c, rfl, hrow, hnc, hcm⟩ := hV.slice
  obtain ⟨hbl, ⟨q0, q1, q2, q3⟩, hz⟩ := nw_box hV.box
  have HR := hide hrow
  have HRD := hide (fun x hx => (hV.rd x hx).1)
  have HIL := hide hil
  have HMC := hide hMC
  have hM6 : M.length ≤ 100000 := by omega
  clear h hV hMC hlen hil hrow hnc hcm q0 q2 q3 hz
  go_enter Try.func21, Try.ntmps21
  go_wp2_with fail
  go_loopw [3, 11] (fun sv i wr => ∃ (k : Nat) (N : List Mg), i = .int .i64 k ∧ k ≤ M.length ∧ N.length = k ∧ OwnL Mg.cells 6 28 w.heap.size wr sv N ∧ N.map Mg.bare = (M.take k).map Mg.bare ∧ (∀ x ∈ N, x.rd wr ∧ ∀ a, x.A = some a → x.L ≠ [] → sv.ownBlock ≠ some a.block) ∧ Below w.heap.size w wr) (fun _ i _ => M.length - (intOf i).toNat)
  case atStart => exact ⟨0, [], rfl, by omega, rfl, OwnL.nil_ _ _ _ _ _, rfl, fun x hx => (by cases hx), Below.refl _ _⟩
  case round =>
    obtain ⟨k, N, rfl, hk, hNl, hown, hbare, hrd, hb⟩ := hrel
    have hN6 : N.length ≤ 100000 := by omega
    have HNL := hide hNl
    have HO := hide hown
    have HBR := hide hbare
    have HRN := hide hrd
    have HB := hide hb
    clear hown hbare hrd hb hNl
    by_cases hkn : k < M.length
    · have hkI : (k : Int) < (M.length : Int) := by omega
      obtain ⟨ga, oa, rfl, hga, a0, a1, a2, a3, a4, a5⟩ := mg_row HR.out HB.out hkn
      have hrx := HRD.out M[k] (List.getElem_mem _)
      have hix := HIL.out M[k] (List.getElem_mem _)
      have htk : (M.take (k + 1)).map Mg.bare = (M.take k).map Mg.bare ++ [(M[k]).bare] := by rw [List.take_succ_eq_append_getElem hkn, List.map_append]; rfl
      have HTK := hide htk
      have HIX := hide hix
      generalize M[k] = x at *
      have hba := below_alloc (Below.refl wr.heap.size wr) (.cells #[.int .i64 x.k, .int .i64 x.f, .int .i64 x.t, .int .u64 x.id, .int .u64 x.n, .slice x.A x.L.length x.c] 28)
      have HCP := hide (mcopy_any x _ ((hrx.below HB.out).below hba) (by omega))
      have HBA := hide hba
      clear hrx hix htk hba
      go_wp2_with fail
      refine (Calls.mono HCP.out ?_); rintro e w5 ⟨Ac, cc, rfl, hoc, hb5⟩
      obtain ⟨Ax, cx, ex, hrx, hlx, hcx1, hcx2⟩ := OwnL.row It.cells_len hoc
      obtain ⟨rfl, rfl⟩ : Ac = Ax ∧ cc = cx := by injection ex with e1 e2 e3; exact ⟨e1, e3⟩
      have hb6 := below_step HBA.out hb5
      have HO5 := hide (OwnL.below HO.out hb6)
      have HB5 := hide (below_step HB.out hb6)
      have HRN5 : Hid (∀ y ∈ N ++ [(⟨x.k, x.f, x.t, x.id, x.n, Ac, cc, x.L⟩ : Mg)], y.rd w5 ∧ ∀ a, y.A = some a → y.L ≠ [] → u3.ownBlock ≠ some a.block) := hide (fun y hy => by
        rcases List.mem_append.1 hy with h | h
        · obtain ⟨h1, h2⟩ := HRN.out y h
          exact ⟨h1.below hb6, h2⟩
        · obtain rfl := List.mem_singleton.1 h
          refine ⟨⟨hrx, hcx1, hcx2⟩, fun a ha hn e => ?_⟩
          have h1 := (hlx a.block a.off a.spot (by rw [← ha])).1
          have h2 := (OwnL.lt HO.out _ e).2
          simp only [World.size_alloc] at h1
          omega)
      have hbs := HB5.out.size
      clear hoc hb5 hb6 hrx hlx ex HCP
      go_wp2_with (at_builtin; refine wpList_append_el rfl (.tmp 15) (.tmp 18) 41 28 _ 6 64 rfl Try.underlying41 Try.infoMsg rfl (by decide) Mg.cells_len Mg.cells_one (by decide) w.heap.size w.heap.size w w5 _ u3 N ⟨x.k, x.f, x.t, x.id, x.n, Ac, cc, x.L⟩ rfl _ rfl rfl rfl HO5.out HB5.out (Nat.le_refl _) hbs (by omega) ?_; intro v8 w8 ho8 hb8 hg8 hm8; have HO8 := hide ho8; have HB8 := hide hb8; have HG8 := hide hg8; have HM8 := hide hm8; clear ho8 hb8 hg8 hm8)
      go_roundw
      case rel =>
        refine ⟨k + 1, N ++ [⟨x.k, x.f, x.t, x.id, x.n, Ac, cc, x.L⟩], by go_num, by omega, by rw [List.length_append, HNL.out]; rfl, HO8.out, by rw [HTK.out, List.map_append, HBR.out]; rfl, fun y hy => ?_, HB8.out⟩
        obtain ⟨h1, h2⟩ := HRN5.out y hy
        refine ⟨h1.sets (Sets.grown HG8.out) (fun a ha hn e => h2 a ha hn e), fun a ha hn e => ?_⟩
        rcases HM8.out with h | ⟨g, hg, h⟩
        · exact h2 a ha hn (by rw [← h]; exact e)
        · rw [h] at e
          have := h1.lt a ha hn
          have := Option.some.inj e
          omega
      case measure => (simp [intOf] <;> omega)
    · obtain rfl : k = M.length := by omega
      have hkI : ¬ (M.length : Int) < (M.length : Int) := by omega
      obtain ⟨A9, c9, rfl, hr9, _⟩ := OwnL.row Mg.cells_len HO.out
      have HR9 := hide hr9
      clear hr9
      go_wp2_with fail
      go_ret
      exact ⟨A9, c9, N, rfl, HR9.out, by rw [HBR.out, List.take_length, HMC.out], fun x hx => (HRN.out x hx).1, HB.out⟩
end Go.Proofs.Ytihhepojhoaacaa
