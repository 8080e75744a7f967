/- round.Round: next, when all have filled: a contract. Conditions: the round as it lies. -/
import Derived.Test.YtikecafblampeaaRndN
namespace Go.Proofs.Ytikecafblampeaa
set_option linter.unusedVariables false
set_option linter.unusedSimpArgs false
open Go.ChangeShapes Go.WideShapes Go.ChangeAt Go.RowKit
/-- What is sent at the end, to the first k nodes. -/
def evenTo (R : Rs) (k : Nat) : List Mg := (List.range k).map fun (j : Nat) => toM R (j : Int) 10
theorem evenTo_snoc (R : Rs) (k : Nat) : evenTo R (k + 1) = evenTo R k ++ [toM R (k : Int) 10] := by unfold evenTo; rw [List.range_succ, List.map_append]; rfl
theorem evenTo_len (R : Rs) (k : Nat) : (evenTo R k).length = k := by simp [evenTo]
set_option maxRecDepth 100000 in
set_option maxHeartbeats 3200000 in
theorem rnext_end {w0 w : World} {b : Nat} {R : Rs} (h : RndO w0 w b R) (hl : R.L.length ≤ 1099511627776) (hp : R.ph = 2) (hn : 1 ≤ R.n ∧ R.n ≤ 7) :
    Calls Try.prog 31 #[.pointer (some ⟨b, 0, none⟩)] w fun e w' => ∃ v N, e = .returned v ∧ RndO w0 w' b (end1R R 0 R.f) ∧ MsO w.heap.size w' v N ∧ N.map Mg.bare = evenTo (end1R R 0 R.f) R.n.toNat ∧ Sets (fun g => g = b) w w' := by
  have HE := hide (rend_any h 0 R.f)
  obtain ⟨v, hb, ho⟩ := h.row
  have c4 : w.cell? ⟨b, 4, none⟩ = some (.int .i64 2) := by rw [← hp]; exact (cell_of_list (o := 4) hb).trans rfl
  have c3 : w.cell? ⟨b, 3, none⟩ = some (.int .u64 R.f) := (cell_of_list (o := 3) hb).trans rfl
  obtain ⟨n, hn1⟩ : ∃ n : Nat, R.n = (n : Int) := ⟨R.n.toNat, by omega⟩
  have hn7 : n ≤ 7 := by omega
  have HNT : Hid (R.n.toNat = n) := hide (by omega)
  have HRN : Hid (R.n = (n : Int)) := hide hn1
  have hn2 : (end1R R 0 R.f).n = R.n := by unfold end1R endR; split <;> rfl
  have hl2 : (end1R R 0 R.f).L = R.L := by unfold end1R endR; split <;> rfl
  have HT := hide (fun (u : World) (hu : RndO w0 u b (end1R R 0 R.f)) (node : Int) => rto_any hu (by rw [hl2]; exact hl) node 10)
  obtain ⟨R2, hR2⟩ : ∃ R2, end1R R 0 R.f = R2 := ⟨_, rfl⟩
  rw [hR2] at HE HT hn2
  have HR2 := hide hR2
  have HN2 : Hid (R2.n = (n : Int)) := hide (hn2.trans hn1)
  clear h hb ho hp hn1 hn hn2 hl2 hR2
  go_enter Try.func31, Try.ntmps31
  go_wp2_with fail
  refine (Calls.mono HE.out ?_); rintro e w1 ⟨rfl, h1, hs1⟩
  have H1 := hide h1
  have HS1 := hide hs1
  obtain ⟨v1, hb1, _⟩ := h1.row
  have d0 : w1.cell? ⟨b, 0, none⟩ = some (.int .i64 (n : Int)) := by rw [← HN2.out]; exact (cell_of_list (o := 0) hb1).trans rfl
  clear h1 hs1 hb1 HE c3 c4
  go_upto_region 8 with fail
  go_loopw [3, 32] (fun v i wr => ∃ (k : Nat) (N : List Mg), k ≤ n ∧ i = .int .i64 k ∧ MsO w1.heap.size wr v N ∧ N.map Mg.bare = evenTo R2 k ∧ Below w1.heap.size w1 wr) (fun _ i _ => n - (intOf i).toNat)
  case atStart => exact ⟨0, [], by omega, rfl, MsO.nil_ _ _, rfl, Below.refl _ _⟩
  case round =>
    obtain ⟨k, N, hk, rfl, hO, hN, hb⟩ := hrel
    have HO := hide hO
    have HN := hide hN
    have HB := hide hb
    clear hO hb
    by_cases hlt : k < n
    · have hkI : (k : Int) < (n : Int) := by omega
      have hNl : N.length ≤ 7 := by
        have h1 := congrArg List.length hN
        rw [List.length_map, evenTo_len] at h1
        omega
      have HTK := hide (HT.out wr (H1.out.below HB.out) (k : Int))
      clear hN
      go_wp2_with fail
      refine (Calls.mono HTK.out ?_); rintro e w5 ⟨x, rfl, hxb, hxr, hxf, hb5⟩
      have hal := below_alloc (Below.refl w5.heap.size w5) (.cells #[.int .i64 x.k, .int .i64 x.f, .int .i64 x.t, .int .u64 x.id, .int .u64 x.n, .slice x.A x.L.length x.c] 30)
      have HXX : Hid (RowAt Mg.cells 6 (w5.alloc (.cells #[.int .i64 x.k, .int .i64 x.f, .int .i64 x.t, .int .u64 x.id, .int .u64 x.n, .slice x.A x.L.length x.c] 30)) (some ⟨w5.heap.size, 0, none⟩) [x]) := hide (RowAt.new_one (cells := Mg.cells) (sz := 6) (y := x) (heap_alloc_new w5 (.cells #[.int .i64 x.k, .int .i64 x.f, .int .i64 x.t, .int .u64 x.id, .int .u64 x.n, .slice x.A x.L.length x.c] 30)))
      have HXR := hide (hxr.below hal)
      have HXF := hide hxf
      have HBU := hide (below_step hb5 hal)
      have HOU := hide (HO.out.below HBU.out)
      have HBW := hide (below_step HB.out HBU.out)
      have HXB := hide hxb
      clear hal hxr hxf hb5 hxb HTK
      go_wp2_with (at_builtin; refine wpList_app_msg rfl (.tmp 35) (.tmp 39) rfl rfl w1.heap.size _ N rfl HOU.out.own (some ⟨w5.heap.size, 0, none⟩) 1 1 [x] rfl rfl HXX.out (by omega) HBW.out.size ?_; intro v6 w6 ho6 hg6 hm6; have HO6 := hide (HO.out.snoc HBU.out HXR.out HXF.out ho6 hg6 hm6); have HB6 := hide (HBW.out.grown hg6 HBW.out.size (fun q hq => (OwnL.lt HOU.out.own q hq).1)); clear ho6 hg6 hm6)
      have HS6 : Hid ((N ++ [x]).map Mg.bare = evenTo R2 (k + 1)) := hide (by rw [evenTo_snoc, List.map_append, HN.out, List.map_cons, HXB.out]; rfl)
      go_wp2_with fail
      go_roundw
      case rel => exact ⟨k + 1, N ++ [x], by omega, by go_num, HO6.out, HS6.out, HB6.out⟩
      case measure => simp only [intOf]; omega
    · obtain rfl : k = n := by omega
      have hkI : ¬ (k : Int) < (k : Int) := by omega
      have HSF := hide (HS1.out.trans (Sets.of (S := fun _ => False) HB.out) (fun _ _ h => h.elim))
      have HRF := hide (H1.out.below HB.out)
      have HO1 : Hid (MsO w.heap.size wr u3 N) := hide ⟨OwnL.base_ HO.out.own HS1.out.size, HO.out.rd, HO.out.far⟩
      clear hN
      go_wp2_with fail
      go_ret
      exact ⟨_, rfl, by rw [HR2.out]; exact HRF.out, N, HO1.out, by rw [HR2.out, HNT.out]; exact HN.out, HSF.out⟩
end Go.Proofs.Ytikecafblampeaa
