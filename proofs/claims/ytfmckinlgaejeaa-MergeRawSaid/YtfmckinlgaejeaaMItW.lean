/- merge.New: a contract. Conditions: typed at each. -/
import Derived.Test.YtfmckinlgaejeaaMItS
namespace Go.Proofs.Ytfmckinlgaejeaa
set_option linter.unusedVariables false
set_option linter.unusedSimpArgs false
open Go.ChangeShapes Go.WideShapes Go.ChangeAt Go.RowKit

theorem it_put0 {w : World} {b : Nat} {u v : Value} {d n : Int} {t : TypeId} (u' : Value) (h : w.heap[b]? = some (.cells (itC u d v n) t (0, 0))) : (w.setCell ⟨b, 0, none⟩ u').heap[b]? = some (.cells (itC u' d v n) t (0, 0)) := by
  simp [World.setCell, Array.getElem?_modify, h, itC]
theorem lenR_mem : ∀ {R : List (List It)} {l : List It}, l ∈ R → l.length ≤ lenR R
  | r :: R, l, h => by
    have e : lenR (r :: R) = r.length + lenR R := by simp [lenR]
    rw [e]
    rcases List.mem_cons.1 h with rfl | h
    · omega
    · have := lenR_mem h; omega
/-- Rows are read apart from a block. -/
def RdB (b : Nat) (R : List (Sv It)) : Prop := ∀ r ∈ R, ∀ a, r.A = some a → r.L ≠ [] → ¬ a.block = b
set_option maxRecDepth 100000 in
set_option maxHeartbeats 3200000 in
theorem itnew_any (A : Option Addr) (c : Nat) (L0 : List (Sv It)) (w : World) (hR : RowAt svC 1 w A L0) (hrd : ∀ r ∈ L0, ItemsAt w r.A r.L ∧ r.L.length ≤ r.c ∧ r.c ≤ maxLen) (hn : L0.length ≤ 900000) (hs : lenR (lsR L0) ≤ 100000000) :
    Calls Try.prog 17 #[.slice A L0.length c] w fun e w' => ∃ b, e = .returned (.pointer (some ⟨b, 0, none⟩)) ∧ Itr w' b (mrgG (lenR (lsR L0)) (lsR L0) []) 0 ∧ w.heap.size ≤ b ∧ Below w.heap.size w w' := by
  have HR := hide hR
  have HRD0 := hide hrd
  have HS := hide hs
  have hb0 := below_alloc (Below.refl w.heap.size w) (.cells (itC (.slice none 0 0) 0 (.slice none 0 0) 0) 61)
  have hx0 := heap_alloc_new w (.cells (itC (.slice none 0 0) 0 (.slice none 0 0) 0) 61)
  have HB0 := hide hb0
  have HX0 := hide hx0
  clear hR hrd hs hb0 hx0
  go_enter Try.func17, Try.ntmps17
  go_wp2_with fail
  go_loopw [10] (fun i wr => ∃ (k : Nat) (R : List (Sv It)) (v : Value), i = .int .i64 k ∧ k ≤ L0.length ∧ lsR R = (lsR L0).take k ∧ wr.heap[w.heap.size]? = some (.cells (itC v 0 (.slice none 0 0) 0) 61 (0, 0)) ∧ OwS (w.heap.size + 1) wr v R ∧ RdA wr v R ∧ RdB w.heap.size R ∧ Below w.heap.size w wr) (fun i _ => L0.length - (intOf i).toNat)
  case atStart => exact ⟨0, [], .slice none 0 0, rfl, by omega, rfl, HX0.out, OwnL.nil_ _ _ _ _ _, fun r hr => (by cases hr), fun r hr => (by cases hr), HB0.out⟩
  case round =>
    clear HB0 HX0
    obtain ⟨k, R, v, rfl, hk, hls, hbx, hos, hrd, hrb, hb⟩ := hrel
    have HLS := hide hls
    have HBX := hide hbx
    have HOS := hide hos
    have HRD := hide hrd
    have HRB := hide hrb
    have HB := hide hb
    obtain ⟨b, hbb⟩ : ∃ b, w.heap.size = b := ⟨_, rfl⟩
    have HBB := hide hbb
    rw [hbb] at HBX HOS HRB
    rw [hbb]
    have hbw : b < wr.heap.size := (Array.getElem?_eq_some_iff.1 HBX.out).1
    have hlk : R.length = k := by
      have := congrArg List.length hls
      rw [lsR_len, List.length_take, lsR_len] at this
      omega
    have HLK := hide hlk
    obtain ⟨A4, c4, rfl, hr4, hlow4, hc4, hcm4⟩ := OwnL.row (cells := svC) (fun _ => rfl) HOS.out
    have HOB : Hid ((Value.slice A4 R.length c4).ownBlock ≠ some b) := hide (fun e => by have := (OwnL.lt HOS.out _ e).1; omega)
    rw [hlk] at HBX HOS HRD HOB
    clear hls hbx hos hrd hrb hb hbb hlk hr4 hlow4
    by_cases hkl : k < L0.length
    · obtain ⟨bl, off, rfl, hbl, hcr⟩ := HR.out.at_ hkl
      have hc0 : w.cell? ⟨bl, off + k, none⟩ = some (L0[k]).val := by simpa using hcr k hkl 0 _ rfl
      obtain ⟨hi0, hi1, hi2⟩ := HRD0.out L0[k] (List.getElem_mem _)
      have htk : (lsR L0).take (k + 1) = (lsR L0).take k ++ [(L0[k]).L] := by
        rw [List.take_succ_eq_append_getElem (by rw [lsR_len]; exact hkl)]
        simp [lsR]
      have HTK := hide htk
      have hkI : (k : Int) < (L0.length : Int) := by omega
      have HMM : Hid ((L0[k]).L ∈ lsR L0) := hide (List.mem_map.2 ⟨_, List.getElem_mem _, rfl⟩)
      generalize L0[k] = s at *
      obtain ⟨Ai, ci, Li⟩ := s
      simp only at hi0 hi1 hi2 HTK HMM
      have hce := keep_cell HB.out hc0 hbl
      have hk6 : R.length + 1 ≤ 1000000 := by have := HLK.out; omega
      have HCL : Hid (Calls Try.prog 34 #[.slice Ai Li.length ci] wr.drew (RetOw Li wr.drew)) := hide (clone_it Ai ci Li wr.drew ((hi0.below HB.out).below (Below.refl _ _).drew) (by have h1 := lenR_mem (show Li ∈ lsR L0 from HMM.out); have h2 := HS.out; omega))
      have hx := it_box HBX.out
      have HC : Hid (∀ W : World, Below wr.heap.size wr.drew W → W.cell? ⟨b, 0, none⟩ = some (.slice A4 k c4)) := hide (fun W hW => ck_ hx.1 hx.2.1.1 hW)
      clear hc0 hcr hx htk hi0 hi1
      go_upto_region 5 with fail
      unfold RetOw at HCL
      refine j_start [8, 9, 10, 11, 0] (by kernel_rfl) ?_
      refine' wpAnyJ_takeW (i := 0) (v := _) ?hi0 (by kernel_rfl) (by kernel_rfl) (by kernel_rfl) (by kernel_rfl) (Or.inl ⟨?hw0, ?hy0⟩) ?rest0
      case hi0 => (simp only [List.getElem?_toArray, List.getElem?_cons_succ, List.getElem?_cons_zero]; rfl)
      case hw0 => rfl
      case hy0 => (intro w' hw'; go_simp; try with_reducible rfl)
      try simp only [Act.put, List.setIfInBounds_toArray, List.set_cons_zero, List.set_cons_succ]
      refine' j_take (i := 1) (v := _) [2, 3, 4, 8, 9, 10, 11] ?hi1 (by kernel_rfl) (by kernel_rfl) (by kernel_rfl) (by kernel_rfl) (by kernel_rfl) (Or.inl ⟨?hw1, ?hy1⟩) ?rest1
      case hi1 => (simp only [List.getElem?_toArray, List.getElem?_cons_succ, List.getElem?_cons_zero]; rfl)
      case hw1 => rfl
      case hy1 => (intro w' hw'; go_simp; try with_reducible rfl)
      try simp only [Act.put, List.setIfInBounds_toArray, List.set_cons_zero, List.set_cons_succ]
      refine' j_take (i := 2) (v := _) [3, 4, 8, 9, 10, 11] ?hi2 (by kernel_rfl) (by kernel_rfl) (by kernel_rfl) (by kernel_rfl) (by kernel_rfl) (Or.inl ⟨?hw2, ?hy2⟩) ?rest2
      case hi2 => (simp only [List.getElem?_toArray, List.getElem?_cons_succ, List.getElem?_cons_zero]; rfl)
      case hw2 => rfl
      case hy2 => (intro w' hw'; go_simp; try with_reducible rfl)
      try simp only [Act.put, List.setIfInBounds_toArray, List.set_cons_zero, List.set_cons_succ]
      refine' j_take (i := 3) (v := _) [4, 8, 9, 10, 11] ?hi3 (by kernel_rfl) (by kernel_rfl) (by kernel_rfl) (by kernel_rfl) (by kernel_rfl) (Or.inl ⟨?hw3, ?hy3⟩) ?rest3
      case hi3 => (simp only [List.getElem?_toArray, List.getElem?_cons_succ, List.getElem?_cons_zero]; rfl)
      case hw3 => rfl
      case hy3 => (intro w' hw'; go_simp; try with_reducible rfl)
      try simp only [Act.put, List.setIfInBounds_toArray, List.set_cons_zero, List.set_cons_succ]
      refine' j_take (i := 4) (v := _) [8, 9, 10, 11] ?hi4 (by kernel_rfl) (by kernel_rfl) (by kernel_rfl) (by kernel_rfl) (by kernel_rfl) (Or.inl ⟨?hw4, ?hy4⟩) ?rest4
      case hi4 => (simp only [List.getElem?_toArray, List.getElem?_cons_succ, List.getElem?_cons_zero]; rfl)
      case hw4 => rfl
      case hy4 => (intro w' hw'; have h0 := HC.out _ hw'; go_simp; try with_reducible rfl)
      try simp only [Act.put, List.setIfInBounds_toArray, List.set_cons_zero, List.set_cons_succ]
      refine' j_take (i := 5) (v := _) [6, 7, 8, 9, 10, 11] ?hi5 (by kernel_rfl) (by kernel_rfl) (by kernel_rfl) (by kernel_rfl) (by kernel_rfl) (Or.inl ⟨?hw5, ?hy5⟩) ?rest5
      case hi5 => (simp only [List.getElem?_toArray, List.getElem?_cons_succ, List.getElem?_cons_zero]; rfl)
      case hw5 => rfl
      case hy5 => (intro w' hw'; go_simp; try with_reducible rfl)
      try simp only [Act.put, List.setIfInBounds_toArray, List.set_cons_zero, List.set_cons_succ]
      refine' wpAnyJ_step (i := 6) (o := _) (by kernel_rfl) ?ho6 (fun K hK => ?step6)
      case ho6 => (simp only [List.getElem?_toArray, List.getElem?_cons_succ, List.getElem?_cons_zero]; rfl)
      go_simp
      refine (Calls.mono (HCL.out) ?_); rintro e u1 ⟨v7, rfl, ho7, gg⟩
      obtain ⟨A7, c7, rfl, hr7, hlow7, hc7, hcm7⟩ := OwnL.row It.cells_len ho7
      have HR7 := hide hr7
      have HLW7 := hide hlow7
      have HGG := hide gg
      clear ho7 hr7 hlow7
      refine hK.out _ _ gg (j_switch gg ?_)
      clear hK K gg
      try simp only [Act.put, List.setIfInBounds_toArray, List.set_cons_zero, List.set_cons_succ]
      refine' wpAnyJ_step (i := 7) (o := _) (by kernel_rfl) ?ho7 (fun K hK => ?step7)
      case ho7 => (simp only [List.getElem?_toArray, List.getElem?_cons_succ, List.getElem?_cons_zero]; rfl)
      go_simp
      have ha := below_alloc (Below.refl u1.heap.size u1) (.cells #[.slice A7 Li.length c7] 22)
      have HN := hide (RowAt.new_one (cells := svC) (sz := 1) (y := ⟨A7, c7, Li⟩) (heap_alloc_new u1 (.cells #[.slice A7 Li.length c7] 22)))
      have HGG2 : Hid (Below wr.heap.size wr (u1.alloc (.cells #[.slice A7 Li.length c7] 22))) := hide (below_step (((Below.refl _ wr).drew).trans HGG.out) ha)
      have HR7 := hide (HR7.out.below ha)
      refine hK.out _ _ ha (j_switch ha ?_)
      clear hK K ha
      try simp only [Act.put, List.setIfInBounds_toArray, List.set_cons_zero, List.set_cons_succ]
      refine' wpAnyJ_last (i := 8) (o := _) (by kernel_rfl) ?ho8 (by kernel_rfl) (fun K hK => ?step8)
      case ho8 => (simp only [List.getElem?_toArray, List.getElem?_cons_succ, List.getElem?_cons_zero]; rfl)
      have hbs := HGG2.out
      refine step_app_ssJ rfl (.tmp 18) (.tmp 21) rfl rfl (b + 1) (.slice A4 k c4) R rfl (OwnL.below HOS.out HGG2.out) (some ⟨u1.heap.size, 0, none⟩) 1 1 [⟨A7, c7, Li⟩] rfl rfl HN.out hk6 (Nat.le_trans hbw HGG2.out.size) ?_
      intro v8 w8 ho8 hg8 hm8
      obtain ⟨R8, hR8⟩ : ∃ R8, R ++ [(⟨A7, c7, Li⟩ : Sv It)] = R8 := ⟨_, rfl⟩
      rw [hR8] at ho8
      have HR8 := hide hR8
      have hl8 : R8.length = k + 1 := by rw [← hR8, List.length_append, HLK.out]; rfl
      obtain ⟨A8, c8, rfl, hr8, hlow8, hc8, hcm8⟩ := OwnL.row (cells := svC) (fun _ => rfl) ho8
      have hbx8 := (hg8.block b (Nat.lt_of_lt_of_le hbw HGG2.out.size) (fun e => HOB.out e.symm)).trans ((HGG2.out.block b hbw).trans HBX.out)
      obtain ⟨hb8, ⟨d0, _, _, _, _, _⟩, df⟩ := it_box hbx8
      rw [hl8] at ho8 hm8
      have HL8 := hide hl8
      have HBX8 := hide hbx8
      have HO8 := hide ho8
      have HG8 := hide hg8
      have HM8 := hide hm8
      have df0 := df 0
      rw [hl8]
      clear hl8 hR8 hbx8 ho8 hg8 hm8 hr8 hlow8 df hbs
      refine hK.out _ _ ?_
      clear hK K
      try simp only [Act.put, List.setIfInBounds_toArray, List.set_cons_zero, List.set_cons_succ]
      refine' wpAnyJ_last (i := 9) (o := _) (by kernel_rfl) ?ho9 (by kernel_rfl) (fun K hK => ?step9)
      case ho9 => (simp only [List.getElem?_toArray, List.getElem?_cons_succ, List.getElem?_cons_zero]; rfl)
      go_simp
      refine hK.out _ _ ?_
      clear hK K
      try simp only [Act.put, List.setIfInBounds_toArray, List.set_cons_zero, List.set_cons_succ]
      refine' wpAnyJ_last (i := 10) (o := _) (by kernel_rfl) ?ho10 (by kernel_rfl) (fun K hK => ?step10)
      case ho10 => (simp only [List.getElem?_toArray, List.getElem?_cons_succ, List.getElem?_cons_zero]; rfl)
      go_simp
      refine hK.out _ _ ?_
      clear hK K
      try simp only [Act.put, List.setIfInBounds_toArray, List.set_cons_zero, List.set_cons_succ]
      refine' wpAnyJ_last (i := 11) (o := _) (by kernel_rfl) ?ho11 (by kernel_rfl) (fun K hK => ?step11)
      case ho11 => (simp only [List.getElem?_toArray, List.getElem?_cons_succ, List.getElem?_cons_zero]; rfl)
      go_simp
      refine hK.out _ _ ?_
      clear hK K
      try simp only [Act.put, List.setIfInBounds_toArray, List.set_cons_zero, List.set_cons_succ]
      refine wpAnyJ_done (by kernel_rfl) ?_ _
      refine NoPanic.normal ?_
      have hob8 : (Value.slice A8 (k + 1) c8).ownBlock ≠ some b := fun e => by have := (OwnL.lt HO8.out _ e).1; omega
      have hst8 : ∀ v8, Sets (fun c => c = b) w8 (w8.setCell ⟨b, 0, none⟩ v8) := fun v8 => (Sets.refl (S := fun c => c = b) w8).set (g := b) (fun _ => rfl) 0 v8
      have hbs2 : wr.heap.size ≤ u1.heap.size := HGG.out.size
      have hrb8 : RdB b R8 := by
        rw [← HR8.out]
        intro r hr a ha hL e
        rcases List.mem_append.1 hr with h | h
        · exact HRB.out r h a ha hL e
        · obtain rfl := List.mem_singleton.1 h
          obtain ⟨ab, ao, asx⟩ := a
          have h1 : wr.heap.size ≤ ab := (HLW7.out ab ao asx ha).1
          simp only at e
          omega
      have hrd8 : RdA w8 (.slice A8 (k + 1) c8) R8 := by
        rw [← HR8.out]
        refine RdA.grown (v := .slice A4 k c4) (w := u1.alloc (.cells #[.slice A7 Li.length c7] 22)) ?_ HG8.out (by
          rcases HM8.out with h | h
          · exact .inl h
          · exact .inr ⟨_, Nat.le_refl _, h⟩)
        intro r hr
        rcases List.mem_append.1 hr with h | h
        · obtain ⟨h1, h2, h3, h4⟩ := HRD.out r h
          exact ⟨h1.below HGG2.out, h2, h3, h4⟩
        · obtain rfl := List.mem_singleton.1 h
          refine ⟨HR7.out, hc7, hcm7, fun a ha _ e => ?_⟩
          obtain ⟨ab, ao, asx⟩ := a
          have h1 : wr.heap.size ≤ ab := (HLW7.out ab ao asx ha).1
          have h2 := (OwnL.lt HOS.out ab e).2
          omega
      have HRDF : Hid (RdA (w8.setCell ⟨b, 0, none⟩ (.slice A8 (k + 1) c8)) (.slice A8 (k + 1) c8) R8) := hide (fun r hr => by
        obtain ⟨h1, h2, h3, h4⟩ := hrd8 r hr
        exact ⟨h1.sets (hst8 _) (fun a ha hn => hrb8 r hr a ha hn), h2, h3, h4⟩)
      have HRBF := hide hrb8
      have HOF := hide (OwnL.setFar HO8.out hob8 (o := 0) (.slice A8 (k + 1) c8))
      have HXF := hide (it_put0 (.slice A8 (k + 1) c8) HBX8.out)
      have HBF : Hid (Below w.heap.size w (w8.setCell ⟨b, 0, none⟩ (.slice A8 (k + 1) c8))) := hide (by
        have h1 := below_step HB.out HGG2.out
        have h2 := h1.grown HG8.out h1.size (fun q hq => by have := (OwnL.lt HOS.out q hq).1; have := HBB.out; omega)
        exact h2.setCell (p := ⟨b, 0, none⟩) (by show w.heap.size ≤ b; have := HBB.out; omega) _)
      have HLF : Hid (lsR R8 = (lsR L0).take (k + 1)) := hide (by rw [← HR8.out, HTK.out, ← HLS.out]; simp [lsR])
      have HBE := HBB.out
      clear hob8 hst8 hrb8 hrd8 d0 df0
      go_wp2_with fail
      go_roundw
      case rel => exact ⟨k + 1, R8, _, by go_num, by omega, HLF.out, HXF.out, HOF.out, HRDF.out, HRBF.out, by have := HBF.out; rw [HBE] at this; exact this⟩
      case measure => (simp [intOf] <;> omega)
    · obtain rfl : k = L0.length := by omega
      have hkI : ¬ (L0.length : Int) < (L0.length : Int) := by omega
      have HFIN : Hid (Itr wr b (mrgG (lenR (lsR L0)) (lsR L0) []) 0) := hide (by
        have he : lsR R = lsR L0 := by rw [HLS.out, List.take_of_length_le (by rw [lsR_len]; omega)]
        obtain ⟨A', c', e', hr', hlo', _⟩ := OwnL.row (cells := svC) (fun _ => rfl) HOS.out
        injection e' with e1 e2 e3
        subst e1
        refine .fresh A4 c4 R (by rw [HLK.out]; exact HBX.out) ⟨hr', fun a ha _ e => ?_, fun r hr => ?_⟩ (by rw [HLK.out]; omega) (by rw [he]; exact HS.out) (by rw [he])
        · have := (hlo' a.block a.off a.spot (by rw [ha])).1
          omega
        · obtain ⟨h1, h2, h3, _⟩ := HRD.out r hr
          exact ⟨h1, h2, h3, HRB.out r hr⟩)
      go_wp2_with fail
      go_ret
      have HBE := HBB.out
      exact ⟨b, rfl, HFIN.out, by omega, HB.out⟩
end Go.Proofs.Ytfmckinlgaejeaa
