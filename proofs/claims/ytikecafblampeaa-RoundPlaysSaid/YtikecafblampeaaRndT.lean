/- round.Round: On: what stands behind its switch. Conditions: OnH. -/
import Derived.Test.YtikecafblampeaaRndP
namespace Go.Proofs.Ytikecafblampeaa
set_option linter.unusedVariables false
set_option linter.unusedSimpArgs false
open Go.ChangeShapes Go.WideShapes Go.ChangeAt Go.RowKit
/-- One more has counted. -/
def markR (R : Rs) (i : Nat) : Rs := { R with C := fun k => if k = i then true else R.C k }
def countR (R : Rs) (i : Nat) : Rs := { markR R i with cnt := R.cnt + 1 }
theorem rsL_mark (R : Rs) (m : Int) (v : Value) {k : Nat} (hk : k < 7) : (rsL R m v).set (5 + k) (.bool true) = rsL (markR R k) m v := by
  match k, hk with
  | 0, _ => rfl
  | 1, _ => rfl
  | 2, _ => rfl
  | 3, _ => rfl
  | 4, _ => rfl
  | 5, _ => rfl
  | 6, _ => rfl
/-- What is, and what is sent, when one more has counted. -/
def goR (R : Rs) (i : Nat) : Rs := if R.cnt + 1 < R.n then countR R i else if R.ph = 1 then fillR (countR R i) else end1R (countR R i) 0 R.f
def goM (R : Rs) (i : Nat) : List Mg := if R.cnt + 1 < R.n then [] else if R.ph = 1 then sendR (fillR (countR R i)) true else evenTo (end1R (countR R i) 0 R.f) R.n.toNat
set_option maxRecDepth 1000000 in
set_option maxHeartbeats 3200000 in
theorem on_tail {w0 w u : World} {b gx : Nat} {R : Rs} {m : Mg} (h : OnH w0 w u b gx R m) (hf : 0 ≤ m.f ∧ m.f < R.n) (hn : 1 ≤ R.n ∧ R.n ≤ 7) (hp : R.ph = 1 ∨ R.ph = 2) (hl : R.L.length ≤ 1099511627776) (hc0 : 0 ≤ R.cnt ∧ R.cnt ≤ 1000) (u1 u2 u4 u5 u6 u7 u8 u9 u10 u11 u12 u13 u14 u15 u16 u17 u18 u19 u20 u21 u22 u23 u24 u25 u26 u27 u28 u29 u30 u31 u32 u33 u34 u35 u36 u37 u38 u39 u40 u41 u42 u43 u44 u45 u46 u47 u48 u49 u50 u51 u52 u53 u54 u55 u56 u57 u58 u59 u60 u61 u62 u63 u64 u65 u66 u67 u68 u69 u70 u71 u72 u73 u74 u75 u76 u77 u78 u79 u80 u81 u82 u83 u84 u85 u86 u87 u88 u89 u90 u91 u92 u93 u94 u95 u96 u97 u98 u99 u100 u101 u102 u103 u104 u105 u106 u107 u108 u109 u110 u111 u112 u113 u114 u115 u116 u117 u118 u119 u120 u121 u122 u123 u124 u125 u126 u127 : Value) :
    Code.wp Try.prog onTail (bodyPost Try.prog Try.f10 (OnP w0 w b (goR R m.f.toNat) (goM R m.f.toNat))) ⟨#[.pointer (some ⟨b, 0, none⟩), u1, u2, .pointer (some ⟨gx, 0, none⟩), u4, u5, u6, u7, u8, u9, u10, u11, u12, u13, u14, u15, u16, u17, u18, u19, u20, u21, u22, u23, u24, u25, u26, u27, u28, u29, u30, u31, u32, u33, u34, u35, u36, u37, u38, u39, u40, u41, u42, u43, u44, u45, u46, u47, u48, u49, u50, u51, u52, u53, u54, u55, u56, u57, u58, u59, u60, u61, u62, u63, u64, u65, u66, u67, u68, u69, u70, u71, u72, u73, u74, u75, u76, u77, u78, u79, u80, u81, u82, u83, u84, u85, u86, u87, u88, u89, u90, u91, u92, u93, u94, u95, u96, u97, u98, u99, u100, u101, u102, u103, u104, u105, u106, u107, u108, u109, u110, u111, u112, u113, u114, u115, u116, u117, u118, u119, u120, u121, u122, u123, u124, u125, u126, u127], []⟩ u := by
  obtain ⟨hr, hb, hgx, hm, hbx⟩ := h
  obtain ⟨v, hbo, ho⟩ := hr.row
  have lb := hr.lt
  have lgx := (Array.getElem?_eq_some_iff.1 hb).1
  obtain ⟨_, m1, _, _, _, _⟩ := six_cells hb
  obtain ⟨i, hi⟩ : ∃ i : Nat, m.f = (i : Int) := ⟨m.f.toNat, by omega⟩
  have hi7 : i < 7 := by omega
  have hit : m.f.toNat = i := by omega
  rw [hit]
  rw [hi] at m1
  have hi0 : (0 : Int) ≤ (i : Int) := by omega
  have hiI : (i : Int) < 7 := by omega
  have HC : Hid (∀ W : World, Below u.heap.size u W → W.cell? ⟨gx, 1, none⟩ = some (.int .i64 (i : Int)) ∧ W.cell? ⟨b, 5 + i, none⟩ = some (.bool (R.C i))) := hide (fun W hW => ⟨keep_cell hW m1 lgx, keep_cell hW ((cell_of_list hbo).trans (rsL_C R 0 v hi7)) lb⟩)
  obtain ⟨ud, hud⟩ : ∃ ud, u.drew = ud := ⟨_, rfl⟩
  have HUD : Hid (Below u.heap.size u ud) := hide (by rw [← hud]; exact (Below.refl _ _).drew)
  have hbd := (HUD.out.block b lb).trans hbo
  have K5 := hide (HC.out _ HUD.out).2
  have Z5 : Hid (ud.frozen? ⟨b, 5 + i, none⟩ = false) := hide (by simp [World.frozen?, hbd])
  have hb1 : (ud.setCell ⟨b, 5 + i, none⟩ (.bool true)).heap[b]? = some (.cells (rsL (markR R i) 0 v).toArray 79 (0, 0)) := by rw [← rsL_mark R 0 v hi7]; exact set_of_list hbd _
  have hs1 : Sets (fun g => g = b) ud (ud.setCell ⟨b, 5 + i, none⟩ (.bool true)) := (Sets.refl (S := fun g => g = b) ud).set (g := b) (fun _ => rfl) _ _
  obtain ⟨u1, hu1⟩ : ∃ u1, ud.setCell ⟨b, 5 + i, none⟩ (.bool true) = u1 := ⟨_, rfl⟩
  rw [hu1] at hb1 hs1
  have k12 : u1.cell? ⟨b, 12, none⟩ = some (.int .i64 R.cnt) := (cell_of_list (o := 12) hb1).trans rfl
  have z12 : u1.frozen? ⟨b, 12, none⟩ = false := by simp [World.frozen?, hb1]
  have hb2 : (u1.setCell ⟨b, 12, none⟩ (.int .i64 (R.cnt + 1))).heap[b]? = some (.cells (rsL (countR R i) 0 v).toArray 79 (0, 0)) := set_of_list hb1 _
  have hs2 : Sets (fun g => g = b) u (u1.setCell ⟨b, 12, none⟩ (.int .i64 (R.cnt + 1))) := ((Sets.of (S := fun g => g = b) HUD.out).trans hs1 (fun _ _ h => h)).set (g := b) (fun _ => rfl) 12 _
  obtain ⟨u2, hu2⟩ : ∃ u2, u1.setCell ⟨b, 12, none⟩ (.int .i64 (R.cnt + 1)) = u2 := ⟨_, rfl⟩
  rw [hu2] at hb2 hs2
  have hr2 := hr.put (R' := countR R i) hbo ho hb2 rfl hs2
  have hsx := hbx.trans hs2 (fun _ _ h => h)
  have hcw : IntKind.i64.wrap (R.cnt + 1) = R.cnt + 1 := by rw [IntKind.wrap_i64]; omega
  have d0 : u2.cell? ⟨b, 0, none⟩ = some (.int .i64 R.n) := (cell_of_list (o := 0) hb2).trans rfl
  have d12 : u2.cell? ⟨b, 12, none⟩ = some (.int .i64 (R.cnt + 1)) := (cell_of_list (o := 12) hb2).trans rfl
  have HF1 := fun (hp1 : R.ph = 1) (w3 : World) (h3 : RndO w0 w3 b (countR R i)) => rnext_fill h3 (show (countR R i).L.length ≤ _ from hl) (show (countR R i).ph = 1 from hp1) (show 1 ≤ (countR R i).n ∧ _ from hn)
  have HF2 := fun (hp1 : R.ph = 2) (w3 : World) (h3 : RndO w0 w3 b (countR R i)) => rnext_end h3 (show (countR R i).L.length ≤ _ from hl) (show (countR R i).ph = 2 from hp1) (show 1 ≤ (countR R i).n ∧ _ from hn)
  have HF1 := hide HF1
  have HF2 := hide HF2
  have HR2 := hide hr2
  have HSX := hide hsx
  have HU1 := hide hu1
  have HU2 := hide hu2
  have HUW := hide hud
  have HP := hide hp
  have lb2 := hr2.lt
  clear hr hb hgx hm hbx hbo ho hi hit hf hn hp hl hbd hb1 hs1 hu1 hb2 hs2 hu2 hr2 hsx hud m1 lgx hi7
  conv => arg 2; whnf
  go_upto_region 12 with fail
  refine j_startD [6] HUW.out (by kernel_rfl) ?_
  refine' j_take (i := 0) (v := _) [3, 4, 5, 6] ?hi0 (by kernel_rfl) (by kernel_rfl) (by kernel_rfl) (by kernel_rfl) (by kernel_rfl) (Or.inl ⟨?hw0, ?hy0⟩) ?rest0
  case hi0 => (simp only [List.getElem?_toArray, List.getElem?_cons_succ, List.getElem?_cons_zero]; rfl)
  case hw0 => rfl
  case hy0 => (intro w' hw'; go_simp; try with_reducible rfl)
  try simp only [Act.put, List.setIfInBounds_toArray, List.set_cons_zero, List.set_cons_succ]
  refine' j_take (i := 1) (v := _) [2, 5, 6] ?hi1 (by kernel_rfl) (by kernel_rfl) (by kernel_rfl) (by kernel_rfl) (by kernel_rfl) (Or.inl ⟨?hw1, ?hy1⟩) ?rest1
  case hi1 => (simp only [List.getElem?_toArray, List.getElem?_cons_succ, List.getElem?_cons_zero]; rfl)
  case hw1 => rfl
  case hy1 => (intro w' hw'; go_simp; try with_reducible rfl)
  try simp only [Act.put, List.setIfInBounds_toArray, List.set_cons_zero, List.set_cons_succ]
  refine' j_take (i := 2) (v := _) [5, 6] ?hi2 (by kernel_rfl) (by kernel_rfl) (by kernel_rfl) (by kernel_rfl) (by kernel_rfl) (Or.inl ⟨?hw2, ?hy2⟩) ?rest2
  case hi2 => (simp only [List.getElem?_toArray, List.getElem?_cons_succ, List.getElem?_cons_zero]; rfl)
  case hw2 => rfl
  case hy2 => (intro w' hw'; obtain ⟨j1, j5⟩ := HC.out _ (below_step HUD.out hw'); go_simp; try with_reducible rfl)
  try simp only [Act.put, List.setIfInBounds_toArray, List.set_cons_zero, List.set_cons_succ]
  refine' j_take (i := 3) (v := _) [4, 5, 6] ?hi3 (by kernel_rfl) (by kernel_rfl) (by kernel_rfl) (by kernel_rfl) (by kernel_rfl) (Or.inl ⟨?hw3, ?hy3⟩) ?rest3
  case hi3 => (simp only [List.getElem?_toArray, List.getElem?_cons_succ, List.getElem?_cons_zero]; rfl)
  case hw3 => rfl
  case hy3 => (intro w' hw'; go_simp; try with_reducible rfl)
  try simp only [Act.put, List.setIfInBounds_toArray, List.set_cons_zero, List.set_cons_succ]
  refine' j_take (i := 4) (v := _) [5, 6] ?hi4 (by kernel_rfl) (by kernel_rfl) (by kernel_rfl) (by kernel_rfl) (by kernel_rfl) (Or.inl ⟨?hw4, ?hy4⟩) ?rest4
  case hi4 => (simp only [List.getElem?_toArray, List.getElem?_cons_succ, List.getElem?_cons_zero]; rfl)
  case hw4 => rfl
  case hy4 => (intro w' hw'; go_simp; try with_reducible rfl)
  try simp only [Act.put, List.setIfInBounds_toArray, List.set_cons_zero, List.set_cons_succ]
  refine' j_take (i := 5) (v := _) [6] ?hi5 (by kernel_rfl) (by kernel_rfl) (by kernel_rfl) (by kernel_rfl) (by kernel_rfl) (Or.inl ⟨?hw5, ?hy5⟩) ?rest5
  case hi5 => (simp only [List.getElem?_toArray, List.getElem?_cons_succ, List.getElem?_cons_zero]; rfl)
  case hw5 => rfl
  case hy5 => (intro w' hw'; go_simp; try with_reducible rfl)
  try simp only [Act.put, List.setIfInBounds_toArray, List.set_cons_zero, List.set_cons_succ]
  refine' wpAnyJ_last (i := 6) (o := _) (by kernel_rfl) ?ho6 (by kernel_rfl) (fun K hK => ?step6)
  case ho6 => (simp only [List.getElem?_toArray, List.getElem?_cons_succ, List.getElem?_cons_zero]; rfl)
  have k5 := K5.out
  have z5 := Z5.out
  go_simp
  refine hK.out _ _ ?_
  clear hK K k5 z5
  try simp only [Act.put, List.setIfInBounds_toArray, List.set_cons_zero, List.set_cons_succ]
  refine wpAnyJ_done (by kernel_rfl) ?_ _
  refine NoPanic.normal ?_
  go_upto_region 13 with fail
  try rw [HU1.out]
  go_upto_region 14 with fail
  try rw [HU2.out]
  clear k12 z12
  have lb2 : b < u2.heap.size := lb2
  have q0 := fun s : Near u2 => s.cell d0 lb2
  have q12 := fun s : Near u2 => s.cell d12 lb2
  by_cases hlt : R.cnt + 1 < R.n
  · have HG : Hid (goR R i = countR R i ∧ goM R i = []) := hide ⟨by unfold goR; rw [if_pos hlt], by unfold goM; rw [if_pos hlt]⟩
    have hd : decide (R.cnt + 1 < R.n) = true := decide_eq_true hlt
    refine wp_region_near (by kernel_rfl) (by kernel_rfl) ?_
    repeat (go_big_quiet_step (fail))
    refine wpQuiet_nil ?_
    intro _ hw'
    obtain ⟨s1, rfl⟩ := hw'
    go_wp2_with fail
    go_ret
    exact ⟨_, [], rfl, by rw [HG.out.1]; exact HR2.out.below s1.is, MsO.nil_ _ _, by rw [HG.out.2]; rfl, HSX.out.trans (Sets.of (S := fun _ => False) s1.is) (fun _ _ h => h.elim)⟩
  · have hd : decide (R.cnt + 1 < R.n) = false := decide_eq_false hlt
    have HNL := hide hlt
    rcases HP.out with h1 | h1
    · have HG : Hid (goR R i = fillR (countR R i) ∧ goM R i = sendR (fillR (countR R i)) true) := hide ⟨by unfold goR; rw [if_neg hlt, if_pos h1], by unfold goM; rw [if_neg hlt, if_pos h1]⟩
      have HNX := hide (HF1.out h1)
      clear h1
      refine wp_region_near (by kernel_rfl) (by kernel_rfl) ?_
      repeat (go_big_quiet_step (fail))
      refine wpQuiet_nil ?_
      intro _ hw'
      obtain ⟨s1, rfl⟩ := hw'
      have HR3 := hide (HR2.out.below s1.is)
      have HSX3 := hide (HSX.out.trans (Sets.of (S := fun _ => False) s1.is) (fun _ _ h => h.elim))
      have HSZ : Hid (w.heap.size ≤ s1.at_.heap.size) := hide (HSX3.out.size)
      go_wp2_with fail
      refine (Calls.mono (HNX.out _ HR3.out) ?_); rintro e w3 ⟨v2, N, rfl, h1, h2, h3, h4⟩
      obtain ⟨A, c, rfl, _, _⟩ := OwnL.row Mg.cells_len h2.own
      have H1 := hide h1
      have H2 : Hid (MsO w.heap.size w3 (.slice A N.length c) N) := hide ⟨OwnL.base_ h2.own HSZ.out, h2.rd, h2.far⟩
      have H3 := hide h3
      have H4 := hide (HSX3.out.trans h4 (fun _ _ h => h))
      clear h1 h2 h3 h4 HNX HF1 HF2
      go_wp2_with fail
      go_ret
      exact ⟨_, N, rfl, by rw [HG.out.1]; exact H1.out, H2.out, by rw [HG.out.2]; exact H3.out, H4.out⟩
    · have hne : ¬ R.ph = 1 := by omega
      have HG : Hid (goR R i = end1R (countR R i) 0 R.f ∧ goM R i = evenTo (end1R (countR R i) 0 R.f) R.n.toNat) := hide ⟨by unfold goR; rw [if_neg hlt, if_neg hne], by unfold goM; rw [if_neg hlt, if_neg hne]⟩
      have HNX := hide (HF2.out h1)
      clear h1 hne
      refine wp_region_near (by kernel_rfl) (by kernel_rfl) ?_
      repeat (go_big_quiet_step (fail))
      refine wpQuiet_nil ?_
      intro _ hw'
      obtain ⟨s1, rfl⟩ := hw'
      have HR3 := hide (HR2.out.below s1.is)
      have HSX3 := hide (HSX.out.trans (Sets.of (S := fun _ => False) s1.is) (fun _ _ h => h.elim))
      have HSZ : Hid (w.heap.size ≤ s1.at_.heap.size) := hide (HSX3.out.size)
      go_wp2_with fail
      refine (Calls.mono (HNX.out _ HR3.out) ?_); rintro e w3 ⟨v2, N, rfl, h1, h2, h3, h4⟩
      obtain ⟨A, c, rfl, _, _⟩ := OwnL.row Mg.cells_len h2.own
      have H1 := hide h1
      have H2 : Hid (MsO w.heap.size w3 (.slice A N.length c) N) := hide ⟨OwnL.base_ h2.own HSZ.out, h2.rd, h2.far⟩
      have H3 := hide h3
      have H4 := hide (HSX3.out.trans h4 (fun _ _ h => h))
      clear h1 h2 h3 h4 HNX HF1 HF2
      go_wp2_with fail
      go_ret
      exact ⟨_, N, rfl, by rw [HG.out.1]; exact H1.out, H2.out, by rw [HG.out.2]; exact H3.out, H4.out⟩
end Go.Proofs.Ytikecafblampeaa
