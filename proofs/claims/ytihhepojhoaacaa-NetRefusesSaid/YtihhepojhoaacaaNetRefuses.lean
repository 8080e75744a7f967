/- The walk of clepsydralaw21.NetRefuses: it returns true. Conditions: the arguments are readable. -/
import Derived.Test.YtihhepojhoaacaaNetO
import Derived.Test.YtihhepojhoaacaaDecMg
namespace Go.Proofs.Ytihhepojhoaacaa.netRefuses
set_option linter.unusedVariables false
set_option linter.unusedSimpArgs false
open Go.ChangeShapes Go.WideShapes Go.ChangeAt Go.RowKit

def rows2 (k : Nat) : List Mg := (List.range k).map fun (j : Nat) => mg0 2 (j : Int)
theorem rows2_len (k : Nat) : (rows2 k).length = k := by simp [rows2]
theorem rows2_snoc (k : Nat) : rows2 k ++ [mg0 2 (k : Int)] = rows2 (k + 1) := by
  unfold rows2
  rw [List.range_succ, List.map_append]
  rfl
set_option maxRecDepth 100000 in
set_option maxHeartbeats 6400000 in
theorem walk {w : World} (a0 : Mg) (w0 : a0.good w) (a1 : Int) (w1 : (Lit.int .i64 a1).wf = true) :
    Calls Try.prog 4 #[.agg a0.cells.toArray, .int .i64 a1] w fun e w' => e = .returned (.bool true) ∧ Below w.heap.size w w' := by
  have b1 := bounds_i64 w1
  have hrd := w0.rd
  obtain ⟨k, f, t, id, n, A, c, L⟩ := a0
  have hba := below_alloc (Below.refl w.heap.size w) (.cells #[.int .i64 k, .int .i64 f, .int .i64 t, .int .u64 id, .int .u64 n, .slice A L.length c] 28)
  have hgn := heap_alloc_new w (.cells #[.int .i64 k, .int .i64 f, .int .i64 t, .int .u64 id, .int .u64 n, .slice A L.length c] 28)
  have hgl : w.heap.size < (w.alloc (.cells #[.int .i64 k, .int .i64 f, .int .i64 t, .int .u64 id, .int .u64 n, .slice A L.length c] 28)).heap.size := by simp
  obtain ⟨wx, hwx⟩ : ∃ wx, w.alloc (.cells #[.int .i64 k, .int .i64 f, .int .i64 t, .int .u64 id, .int .u64 n, .slice A L.length c] 28) = wx := ⟨_, rfl⟩
  rw [hwx] at hba hgn hgl
  obtain ⟨g, hg⟩ : ∃ g, w.heap.size = g := ⟨_, rfl⟩
  have HGE := hide hg
  rw [hg] at hgn hgl
  have HX : Hid (∀ W : World, Below wx.heap.size wx W → W.heap[g]? = some (.cells #[.int .i64 k, .int .i64 f, .int .i64 t, .int .u64 id, .int .u64 n, .slice A L.length c] 28 (0, 0))) := hide (fun W hW => (hW.block _ hgl).trans hgn)
  have HBA := hide hba
  have HRD := hide hrd
  obtain ⟨ln, hln⟩ : ∃ ln, L.length = ln := ⟨_, rfl⟩
  have HLN := hide hln
  rw [hln] at HX
  have HWX := hide hwx
  show Calls Try.prog 4 #[.agg #[.int .i64 k, .int .i64 f, .int .i64 t, .int .u64 id, .int .u64 n, .slice A L.length c], .int .i64 a1] w _
  rw [hln]
  rw [hln] at HWX
  clear w0 w1 hba hgn hrd hwx hg hln
  go_enter Try.func4, Try.ntmps4
  go_upto_region 1 with fail
  try rw [HWX.out]
  have hge := HGE.out
  rw [hge]
  clear HWX hge
  go_wp2_with fail
  refine (Calls.mono (nnew_o 5 _) ?_); rintro e wn ⟨b, rfl, hN⟩
  rw [show capN 5 = 5 from rfl] at hN
  have HN := hide hN
  obtain ⟨x0, x1, x2, x3, x4, x5⟩ := six_cells (HX.out _ hN.low)
  clear hN
  by_cases h100 : 100 < ln
  · have hI : (100 : Int) < (ln : Int) := by omega
    go_wp2_with fail
    refine (Calls.mono (awake21_any _) ?_); rintro e w10 ⟨rfl, hb10⟩
    have HB10 := hide (below_step HBA.out (below_step HN.out.low hb10))
    clear hb10
    go_wp2_with fail
    go_ret
    exact ⟨rfl, HB10.out⟩
  have hI : ¬ (100 : Int) < (ln : Int) := by omega
  go_wp2_with fail
  clear x0 x1 x2 x3 x4 x5
  go_loopw [6] (fun i wr => ∃ (j : Nat) (rb : Option Nat), i = .int .i64 j ∧ j ≤ 3 ∧ NetO wx wr b rb 5 (rows2 j) 0 j) (fun i _ => 3 - (intOf i).toNat)
  case atStart => exact ⟨0, _, rfl, by omega, HN.out⟩
  case round =>
    clear HN
    obtain ⟨j, rb, rfl, hj, hN⟩ := hrel
    have HN := hide hN
    clear hN
    by_cases hj3 : j < 3
    · have hjI : (j : Int) < 3 := by omega
      have hwu : IntKind.u64.wrap (j : Int) = (j : Int) := by rw [IntKind.wrap_u64]; omega
      have HS := hide (send_o HN.out (mg0 2 (j : Int)) (mg0_rd _ _ rfl rfl rfl) (fun a h => by cases h) (by unfold mokB nodeB; simp; omega) (by rw [rows2_len]; omega) (by omega) (by omega))
      have HR : Hid (sendC 5 (rows2 j) (mg0 2 (j : Int)).bare = rows2 (j + 1) ∧ sendL 5 (rows2 j) = 0) := hide (by
        unfold sendC sendL
        rw [rows2_len, if_neg (by omega), if_neg (by omega)]
        exact ⟨rows2_snoc j, rfl⟩)
      rw [HR.out.1, HR.out.2] at HS
      go_wp2_with fail
      refine (Calls.mono HS.out ?_); rintro e w2 ⟨r2, rfl, hN, _⟩
      have HN2 := hide hN
      clear hN HS
      go_wp2_with fail
      go_roundw
      case rel => exact ⟨j + 1, r2, by go_num, by omega, HN2.out⟩
      case measure => (simp [intOf] <;> omega)
    · obtain rfl : j = 3 := by omega
      have hjI : ¬ ((3 : Nat) : Int) < 3 := by omega
      have hx6 := HX.out _ HN.out.low
      obtain ⟨x0, x1, x2, x3, x4, x5⟩ := six_cells hx6
      have xf : ∀ o, wr.frozen? ⟨g, o, none⟩ = false := fun o => by simp [World.frozen?, hx6]
      have hst : Sets (fun c => c = g) wr (wr.setCell ⟨g, 1, none⟩ (.int .i64 7)) := (Sets.refl (S := fun c => c = g) wr).set (g := g) (fun _ => rfl) 1 _
      have hbg : g < b := Nat.lt_of_lt_of_le hgl HN.out.old
      have hlow : Below w.heap.size w (wr.setCell ⟨g, 1, none⟩ (.int .i64 7)) := (below_step HBA.out HN.out.low).setCell (p := ⟨g, 1, none⟩) (by show w.heap.size ≤ g; have := HGE.out; omega) _
      have HN2 : Hid (NetO w (wr.setCell ⟨g, 1, none⟩ (.int .i64 7)) b rb 5 (rows2 3) 0 (3 : Nat)) := hide ⟨HN.out.at_.sets hst (fun c _ hc e => by omega), by have := HGE.out; omega, hlow⟩
      have hy6 : (wr.setCell ⟨g, 1, none⟩ (.int .i64 7)).heap[g]? = some (.cells #[.int .i64 k, .int .i64 7, .int .i64 t, .int .u64 id, .int .u64 n, .slice A ln c] 28 (0, 0)) := by
        simp [World.setCell, Array.getElem?_modify, hx6]
      have HY6 := hide hy6
      obtain ⟨wq, hwq⟩ : ∃ wq, wr.setCell ⟨g, 1, none⟩ (.int .i64 7) = wq := ⟨_, rfl⟩
      rw [hwq] at HN2 HY6
      have hrd2 := HRD.out.below HN2.out.low
      have HSB : Hid (Calls Try.prog 8 #[.pointer (some ⟨b, 0, none⟩), .agg #[.int .i64 k, .int .i64 7, .int .i64 t, .int .u64 id, .int .u64 n, .slice A ln c]] wq fun e w' => e = .returned (.bool false) ∧ Below wq.heap.size wq w') := hide (by
        have h := send_bad (w := wq) (b := b) ⟨k, 7, t, id, n, A, c, L⟩ ⟨hrd2.1, hrd2.2⟩ (by rw [HLN.out]; omega) (by unfold mokB nodeB; simp)
        rw [← HLN.out]
        exact h)
      have HWQ := hide hwq
      clear hx6 hst hlow hy6 hwq hrd2 HN
      go_upto_region 9 with fail
      try rw [HWQ.out]
      clear x0 x1 x2 x3 x4 x5 xf HWQ
      obtain ⟨x0, x1, x2, x3, x4, x5⟩ := six_cells HY6.out
      go_wp2_with fail
      refine (Calls.mono HSB.out ?_); rintro e w3 ⟨rfl, hb3⟩
      have HN3 := hide (HN2.out.below hb3)
      have HL3 := hide (nlen_any HN3.out.at_)
      have HE3 := hide (nsent_any HN3.out.at_)
      rw [rows2_len] at HL3
      clear hb3 HSB HN2 x0 x1 x2 x3 x4 x5 HY6
      go_wp2_with fail
      refine (Calls.mono HL3.out ?_); rintro e w4 ⟨rfl, rfl⟩
      go_wp2_with fail
      refine (Calls.mono HE3.out ?_); rintro e w5 ⟨rfl, rfl⟩
      clear HL3 HE3
      by_cases h0 : 0 ≤ a1
      all_goals
        go_upto_if 51 with fail
        obtain ⟨wh, rfl⟩ : ∃ wh, wh = w5 := ⟨_, rfl⟩
        go_cut [1] (fun v W => ∃ i' : Int, v = .int .i64 i' ∧ ¬ (0 ≤ i' ∧ i' < 3) ∧ W = wh)
        case first =>
          by_cases hi2 : a1 < 3
          all_goals
            go_wp2_with fail
            go_meet
            first | exact ⟨3, rfl, by omega, rfl⟩ | exact ⟨a1, rfl, by omega, rfl⟩
        case rest =>
          obtain ⟨i', rfl, hi', rfl⟩ := hcut
          have hno : ¬ (0 ≤ i' ∧ i' < ((rows2 3).length : Int)) := hi'
          have HNO := hide hno
          have HT := hide (take_miss HN3.out.at_ i' hno)
          clear hi' hno
          go_wp2_with fail
          refine (Calls.mono HT.out ?_); rintro e w6 ⟨rfl, hb6⟩
          have HN6 := hide (HN3.out.below (below_step hb6 (below_alloc (Below.refl w6.heap.size w6) (.cells #[.int .i64 0, .int .i64 0, .int .i64 0, .int .u64 0, .int .u64 0, .slice none 0 0] 28))))
          have HD := hide (drop_miss HN6.out.at_ i' HNO.out)
          clear hb6 HT HN3
          go_wp2_with fail
          refine (Calls.mono HD.out ?_); rintro e w7 ⟨rfl, hb7⟩
          have HN7 := hide (HN6.out.below hb7)
          have HDB := hide (double_miss HN7.out.at_ i' HNO.out)
          have HT1 := hide (turn_miss HN7.out.at_ i' 0 (fun h => HNO.out h.1))
          have HT2 := hide (turn_miss HN7.out.at_ 0 i' (fun h => HNO.out h.2))
          have HT3 := hide (turn_o HN7.out 1 1 (by rw [rows2_len]; omega) (by rw [rows2_len]; omega))
          have HSAME : Hid (((rows2 3).set 1 ((rows2 3)[1]'(by rw [rows2_len]; omega))).set 1 ((rows2 3)[1]'(by rw [rows2_len]; omega)) = rows2 3) := hide rfl
          rw [HSAME.out] at HT3
          clear hb7 HD HN6
          go_wp2_with fail
          refine (Calls.mono HDB.out ?_); rintro e w8 ⟨rfl, rfl⟩
          go_wp2_with fail
          refine (Calls.mono HT1.out ?_); rintro e w9 ⟨rfl, rfl⟩
          go_wp2_with fail
          refine (Calls.mono HT2.out ?_); rintro e w10 ⟨rfl, rfl⟩
          go_wp2_with fail
          refine (Calls.mono HT3.out ?_); rintro e w11 ⟨rfl, hN11, _⟩
          have HN11 := hide hN11
          have HL := hide (nlen_any hN11.at_)
          have HLO := hide (nlost_any hN11.at_)
          rw [rows2_len] at HL
          clear hN11
          go_wp2_with fail
          refine (Calls.mono HL.out ?_); rintro e w12 ⟨rfl, rfl⟩
          go_wp2_with fail
          refine (Calls.mono HLO.out ?_); rintro e w13 ⟨rfl, rfl⟩
          go_wp2_with fail
          refine (Calls.mono (awake21_any _) ?_); rintro e w14 ⟨rfl, hb14⟩
          have HB14 := hide (below_step HN11.out.low hb14)
          clear hb14
          go_wp2_with fail
          go_ret
          exact ⟨rfl, HB14.out⟩
end Go.Proofs.Ytihhepojhoaacaa.netRefuses
