/- clepsydraref1.Num, clepsydraref12.NewFilter and Bytes: contracts. Conditions: typed at each. -/
import Derived.Test.YtdhpjeenbejajaaBlmAdds
import Derived.Test.YtdhpjeenbejajaaBlm5
namespace Go.Proofs.Ytdhpjeenbejajaa
set_option linter.unusedVariables false
set_option linter.unusedSimpArgs false
open Go.ChangeShapes Go.WideShapes Go.ChangeAt Go.RowKit

theorem strOfNums_app (a b : List Int) : strOfNums (a ++ b) = strOfNums a ++ strOfNums b := by
  apply ByteArray.ext
  simp [strOfNums]
theorem putL_ne (n : Int) : putL n ≠ [] := by
  unfold putL putAux
  split <;> simp

set_option maxHeartbeats 1000000 in
theorem num_any (n : Int) (w : World) (hn : 0 ≤ n ∧ n < 18446744073709551616) :
    Calls Try.prog 26 #[.int .u64 n] w fun e w' => e = .returned (.string (strOfNums (putL n))) ∧ Below w.heap.size w w' := by
  go_enter Try.func26, Try.ntmps26
  go_wp2_with fail
  go_loopw [0, 3] (fun m v wr => ∃ (f : Nat) (M : List Int) (x : Int), M.length + f = 10 ∧ 0 ≤ x ∧ x < 2 ^ (7 * f) ∧ x < 18446744073709551616 ∧ putL n = M ++ putAux (f + 1) x ∧ m = .int .u64 x ∧ OwnL (one1 u8v) 1 5 w.heap.size wr v M ∧ Below w.heap.size w wr) (fun m _ _ => (intOf m).toNat)
  case atStart => exact ⟨10, [], n, rfl, hn.1, Int.lt_trans hn.2 (by decide), hn.2, rfl, rfl, OwnL.nil_ _ _ _ _ _, Below.refl _ _⟩
  case round =>
    obtain ⟨f, M, x, hf, hx0, hx1, hx2, hpe, rfl, ho, hb⟩ := hrel
    have HO := hide ho
    have HB := hide hb
    have HPE := hide hpe
    have hbs := hb.size
    have HX1 := hide hx1
    clear ho hb hpe hx1
    by_cases h128 : x < 128
    · have hge : ¬ (127 < x) := by omega
      have hxm : x % 256 = x := by omega
      go_wp2_with (at_builtin; refine wpList_append_one rfl (.tmp 14) (.tmp 17) 27 5 _ 1 rfl Try.underlying27 Try.infoU8 rfl (fun _ => rfl) (by omega) _ _ _ _ _ _ M x rfl rfl rfl HO.out HB.out (Nat.le_refl _) hbs (by omega) ?_; intro v2 u2 ho2 hbu2 hgu2; obtain ⟨Z, hZ⟩ : ∃ Z, M ++ [x] = Z := ⟨_, rfl⟩; rw [hZ] at ho2; obtain ⟨A2, c2, e2, hr2, _, _⟩ := ho2.vals; subst e2; have hne : Z ≠ [] := (by rw [← hZ]; simp); have hcv := conv_vals (c := c2) hr2 hne; have HZ := hide hZ; clear hZ hne)
      go_ret
      refine ⟨?_, hbu2⟩
      rw [HPE.out, show putAux (f + 1) x = [x] from by rw [putAux, if_pos h128], HZ.out]
      rfl
    · have hge : 127 < x := by omega
      obtain ⟨y, hy⟩ : ∃ y, bits .or .u8 (x % 256) 128 = y := ⟨_, rfl⟩
      go_wp2_with (at_builtin; refine wpList_append_one rfl (.tmp 6) (.tmp 10) 27 5 _ 1 rfl Try.underlying27 Try.infoU8 rfl (fun _ => rfl) (by omega) _ _ _ _ _ _ M y rfl rfl rfl HO.out HB.out (Nat.le_refl _) hbs (by omega) ?_; intro v2 u2 ho2 hbu2 hgu2)
      rcases f with _ | f
      · have := HX1.out
        simp at this
        omega
      have hx3 : x / 128 < 2 ^ (7 * f) := by
        apply Int.ediv_lt_of_lt_mul (by decide)
        have h := HX1.out
        rw [show 7 * (f + 1) = 7 * f + 7 by omega, Int.pow_add] at h
        exact h
      refine ⟨⟨f, M ++ [y], x / 128, by rw [List.length_append, List.length_singleton]; omega, by omega, hx3, by omega, ?_, rfl, ho2, hbu2⟩, by simp [intOf]; omega⟩
      rw [HPE.out, show putAux (f + 1 + 1) x = bits .or .u8 (x % 256) 128 :: putAux (f + 1) (x / 128) from by rw [putAux, if_neg h128], hy]
      simp

/-- The document's filter in memory: its struct in block p, its bytes in block g. -/
structure RFlt (w : World) (p g : Nat) (k : Nat) (B : List Int) : Prop where
  st : w.heap[p]? = some (.cells #[.int .i64 k, .slice (some ⟨g, 0, none⟩) B.length B.length] 44 (0, 0))
  bl : w.heap[g]? = some (.cells (B.map u8v).toArray 5 (0, 0))
  ne : p ≠ g
  k1 : 1 ≤ k ∧ k ≤ 14
  len : 1 ≤ B.length ∧ B.length ≤ 25000
  byt : ∀ b ∈ B, isB b
theorem RFlt.below {w w' : World} {p g k : Nat} {B : List Int} (h : RFlt w p g k B) (hb : Below w.heap.size w w') : RFlt w' p g k B :=
  { h with st := (hb.block p (Array.getElem?_eq_some_iff.1 h.st).1).trans h.st, bl := (hb.block g (Array.getElem?_eq_some_iff.1 h.bl).1).trans h.bl }
theorem RFlt.lt {w : World} {p g k : Nat} {B : List Int} (h : RFlt w p g k B) : p < w.heap.size ∧ g < w.heap.size := ⟨(Array.getElem?_eq_some_iff.1 h.st).1, (Array.getElem?_eq_some_iff.1 h.bl).1⟩
theorem RFlt.cells {w : World} {p g k : Nat} {B : List Int} (h : RFlt w p g k B) : w.cell? ⟨p, 0, none⟩ = some (.int .i64 k) ∧ w.cell? ⟨p, 1, none⟩ = some (.slice (some ⟨g, 0, none⟩) B.length B.length) :=
  ⟨(cell_of_row w p 0 _ _ _ h.st).trans rfl, (cell_of_row w p 1 _ _ _ h.st).trans rfl⟩
theorem RFlt.row {w : World} {p g k : Nat} {B : List Int} (h : RFlt w p g k B) : ValsAt u8v w (some ⟨g, 0, none⟩) B := vals_of_block h.bl
theorem RFlt.put {w : World} {p g k : Nat} {B : List Int} (h : RFlt w p g k B) (m : Nat) {x : Int} (hx : isB x) : RFlt (w.setCell ⟨g, m, none⟩ (.int .u8 x)) p g k (B.set m x) where
  st := by rw [Below.heap_setCell _ _ _ _ h.ne, h.st, List.length_set]
  bl := by rw [List.map_set]; exact heap_setB h.bl
  ne := h.ne
  k1 := h.k1
  len := by rw [List.length_set]; exact h.len
  byt := fun b hb => by
    rcases List.mem_or_eq_of_mem_set hb with h1 | rfl
    · exact h.byt b h1
    · exact hx
theorem RFlt.grown {w w' : World} {p g k : Nat} {B : List Int} {r : Nat} (h : RFlt w p g k B) (hg : w.grownBy w' (some r)) (h1 : p ≠ r) (h2 : g ≠ r) : RFlt w' p g k B :=
  { h with st := (hg.block p h.lt.1 (by intro e; injection e with e; exact h1 e)).trans h.st, bl := (hg.block g h.lt.2 (by intro e; injection e with e; exact h2 e)).trans h.bl }

set_option maxHeartbeats 1000000 in
theorem newf_yes (n each : Int) (w : World) (hn : 0 ≤ n ∧ n ≤ 10000) (he : 1 ≤ each ∧ each ≤ 20) :
    Calls Try.prog 14 #[.int .i64 n, .int .i64 each] w fun e w' => ∃ p g, e = .returned (.pointer (some ⟨p, 0, none⟩)) ∧ w.heap.size ≤ p ∧ w.heap.size ≤ g ∧ RFlt w' p g (newK each) (zeros (newS n each)) ∧ Below w.heap.size w w' := by
  have d0 : decide (n < 0) = false := decide_eq_false (by omega)
  have d1 : decide (10000 < n) = false := decide_eq_false (by omega)
  have d2 : decide (each < 1) = false := decide_eq_false (by omega)
  have d3 : decide (20 < each) = false := decide_eq_false (by omega)
  have HK : Hid (((newK each : Nat) : Int) = max (each * 7 / 10) 1) := hide (by unfold newK; omega)
  have HK2 : Hid (1 ≤ newK each ∧ newK each ≤ 14) := hide (by unfold newK; omega)
  have hm : 0 ≤ n * each ∧ n * each ≤ 200000 := by
    have h1 := Int.mul_nonneg hn.1 (show (0 : Int) ≤ each by omega)
    have h2 : n * each ≤ 10000 * 20 := Int.mul_le_mul hn.2 he.2 (by omega) (by omega)
    omega
  obtain ⟨M, hM⟩ : ∃ M, n * each = M := ⟨_, rfl⟩
  rw [hM] at hm
  have e1 : wrap64 (n * each) = M := by rw [hM]; unfold wrap64; omega
  obtain ⟨X, hX⟩ : ∃ X, max M 64 = X := ⟨_, rfl⟩
  have hX2 : 64 ≤ X ∧ X ≤ 200000 := by omega
  have hX3 : max 64 M = X := by omega
  have e2 : wrap64 (X + 7) = X + 7 := by unfold wrap64; omega
  obtain ⟨S, hS⟩ : ∃ S : Nat, (X + 7) / 8 = S := ⟨((X + 7) / 8).toNat, by omega⟩
  have hS2 : 8 ≤ S ∧ S ≤ 25000 := by omega
  have e5 : wrap64 (S : Int) = S := by unfold wrap64; omega
  have hSS : Hid (newS n each = S) := hide (by unfold newS; rw [hM, hX, hS]; simp)
  have hK3 : max 1 (each * 7 / 10) = ((newK each : Nat) : Int) := by rw [HK.out]; omega
  clear hM
  have hS3 : S ≤ 100000 := Nat.le_trans hS2.2 (by decide)
  have hmk := run_make_bytes S hS3
  go_enter Try.func14, Try.ntmps14
  go_wp2_with fail
  refine bodyPost_ret (v := .pointer (some ⟨w.heap.size + 1, 0, none⟩)) (by simp [results, Try.results14]) rfl ?_
  refine ⟨w.heap.size + 1, w.heap.size, rfl, by omega, Nat.le_refl _, ?_, below_alloc (below_alloc (Below.refl _ _) _) _⟩
  rw [hSS.out]
  have hz : (zeros S).length = S := by simp [zeros]
  refine ⟨?_, ?_, by omega, ?_, by rw [hz]; exact ⟨Nat.le_trans (by decide) hS2.1, hS2.2⟩, ?_⟩
  · rw [hz]
    exact heap_at (by simp)
  · exact (Below.heap_alloc _ _ _ (by simp)).trans (heap_alloc_new _ _)
  · exact HK2.out
  · intro b hb
    have := List.eq_of_mem_replicate hb
    subst this
    exact ⟨by decide, by decide⟩

theorem newf_no (n each : Int) (w : World) (h : n < 0 ∨ 10000 < n ∨ each < 1 ∨ 20 < each) :
    Calls Try.prog 14 #[.int .i64 n, .int .i64 each] w fun e w' => e = .returned (.pointer none) ∧ Below w.heap.size w w' := by
  by_cases h0 : n < 0
  · have d0 : decide (n < 0) = true := decide_eq_true h0
    go_enter Try.func14, Try.ntmps14
    go_wp2_with fail
    go_ret
    exact ⟨rfl, Below.refl _ _⟩
  have d0 : decide (n < 0) = false := decide_eq_false h0
  by_cases h1 : 10000 < n
  · have d1 : decide (10000 < n) = true := decide_eq_true h1
    go_enter Try.func14, Try.ntmps14
    go_wp2_with fail
    go_ret
    exact ⟨rfl, Below.refl _ _⟩
  have d1 : decide (10000 < n) = false := decide_eq_false h1
  by_cases h2 : each < 1
  · have d2 : decide (each < 1) = true := decide_eq_true h2
    go_enter Try.func14, Try.ntmps14
    go_wp2_with fail
    go_ret
    exact ⟨rfl, Below.refl _ _⟩
  have d2 : decide (each < 1) = false := decide_eq_false h2
  have h3 : 20 < each := by omega
  have d3 : decide (20 < each) = true := decide_eq_true h3
  go_enter Try.func14, Try.ntmps14
  go_wp2_with fail
  go_ret
  exact ⟨rfl, Below.refl _ _⟩

theorem near_cells1 (w : World) : ∀ (s : Near w) (b o : Nat), b < w.heap.size → s.at_.cell? ⟨b, o, none⟩ = w.cell? ⟨b, o, none⟩ := fun s b o h => s.is.cell (p := ⟨b, o, none⟩) h
theorem str_len (L : List Int) : (strOfNums L).size = L.length := strOfNums_size L
set_option maxHeartbeats 1000000 in
theorem rbytes_any {p g k : Nat} {B : List Int} (w : World) (hF : RFlt w p g k B) :
    Calls Try.prog 15 #[.pointer (some ⟨p, 0, none⟩)] w fun e w' => e = .returned (.string (strOfNums (bytesL k B))) ∧ Below w.heap.size w w' := by
  obtain ⟨f0, f1⟩ := hF.cells
  obtain ⟨hlp, hlg⟩ := hF.lt
  obtain ⟨hln1, hln2⟩ := hF.len
  obtain ⟨hk1, hk2⟩ := hF.k1
  have HR := hide hF.row
  have hbne : B ≠ [] := fun e => by rw [e] at hln1; simp at hln1
  have HBN := hide hbne
  have q3 : (0 : Int) ≤ (k : Int) ∧ (k : Int) < 18446744073709551616 := by omega
  have q4 : (0 : Int) ≤ (B.length : Int) ∧ (B.length : Int) < 18446744073709551616 := by omega
  have Q3 := hide q3
  have Q4 := hide q4
  have hwk : IntKind.u64.wrap (k : Int) = k := by rw [IntKind.wrap_u64]; omega
  have hwn : IntKind.u64.wrap (B.length : Int) = B.length := by rw [IntKind.wrap_u64]; omega
  obtain ⟨S1, hS1⟩ : ∃ S, strOfNums (putL (k : Int)) = S := ⟨_, rfl⟩
  obtain ⟨S2, hS2⟩ : ∃ S, strOfNums (putL (B.length : Int)) = S := ⟨_, rfl⟩
  obtain ⟨S3, hS3⟩ : ∃ S, strOfNums B = S := ⟨_, rfl⟩
  have HE : Hid (strOfNums (bytesL k B) = S1 ++ S2 ++ S3) := hide (by unfold bytesL; rw [strOfNums_app, strOfNums_app, hS1, hS2, hS3])
  have s1 : S1.size ≤ 11 := by rw [← hS1, str_len]; exact putL_len _
  have s2 : S2.size ≤ 11 := by rw [← hS2, str_len]; exact putL_len _
  have s3 : S3.size ≤ 25000 := by rw [← hS3, str_len]; exact hln2
  have N1 : Hid (∀ W : World, Calls Try.prog 26 #[.int .u64 k] W fun e w' => e = .returned (.string S1) ∧ Below W.heap.size W w') := hide (fun W => by have := num_any k W Q3.out; rw [hS1] at this; exact this)
  have N2 : Hid (∀ W : World, Calls Try.prog 26 #[.int .u64 B.length] W fun e w' => e = .returned (.string S2) ∧ Below W.heap.size W w') := hide (fun W => by have := num_any B.length W Q4.out; rw [hS2] at this; exact this)
  have hcv : ∀ s : Near w, (convert 27 9 (.slice (some ⟨g, 0, none⟩) B.length B.length)).run Try.prog s.at_ = .ok (.string S3) s.at_ := fun s => by rw [← hS3]; exact conv_vals (HR.out.below s.is) HBN.out
  clear hS1 hS2 hS3
  clear hF hbne q3 q4
  go_enter Try.func15, Try.ntmps15
  go_wp2_with fail
  have hnc := near_cells1 w
  refine wp_region_near (by kernel_rfl) (by kernel_rfl) ?_
  repeat (go_big_quiet_step ((first | (go_at_call 26; with_reducible exact near_of (N1.out _)) | (go_at_call 26; with_reducible exact near_of (N2.out _)))))
  refine wpQuiet_nil ?_
  intro _ hw'
  obtain ⟨sn, rfl⟩ := hw'
  go_wp2_with fail
  go_ret
  exact ⟨by rw [HE.out]; rfl, sn.is⟩
end Go.Proofs.Ytdhpjeenbejajaa
