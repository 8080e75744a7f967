/- The document's Eight and Key, and clepsydralaw9.height: contracts. Conditions: typed at each. -/
import Derived.Test.YtoejhekmfgkklaaKey
import Derived.Test.YtoejhekmfgkklaaRH9
import Derived.Deep.RegionHeld3
import Derived.Test.YtoejhekmfgkklaaHeld
namespace Go.Proofs.Ytoejhekmfgkklaa
set_option linter.unusedVariables false
set_option linter.unusedSimpArgs false
open Go.ChangeShapes Go.WideShapes Go.ChangeAt Go.RowKit

theorem res_box9 {w : World} {g : Nat} {a0 a1 a2 a3 a4 : Value} {t : TypeId} (h : w.heap[g]? = some (.cells #[a0, a1, a2, a3, a4] t (0, 0))) : g < w.heap.size ∧
    w.cell? ⟨g, 0, none⟩ = some a0 ∧ w.cell? ⟨g, 1, none⟩ = some a1 ∧ w.cell? ⟨g, 2, none⟩ = some a2 ∧ w.cell? ⟨g, 3, none⟩ = some a3 ∧ w.cell? ⟨g, 4, none⟩ = some a4 ∧ ∀ o, w.frozen? ⟨g, o, none⟩ = false :=
  ⟨(Array.getElem?_eq_some_iff.1 h).1, (cell_of_row w g 0 _ _ _ h).trans rfl, (cell_of_row w g 1 _ _ _ h).trans rfl, (cell_of_row w g 2 _ _ _ h).trans rfl, (cell_of_row w g 3 _ _ _ h).trans rfl, (cell_of_row w g 4 _ _ _ h).trans rfl, fun o => by simp [World.frozen?, h]⟩
def e8 (n : Int) (k : Nat) : List Int := eightTo n k ++ zeros9 (8 - k)
theorem e8_len (n : Int) (k : Nat) (h : k ≤ 8) : (e8 n k).length = 8 := by unfold e8; rw [List.length_append, eightTo_len]; simp [zeros9]; omega
theorem e8_set (n : Int) (k : Nat) (h : k < 8) : (e8 n k).set k (n / 2 ^ (56 - 8 * k) % 256) = e8 n (k + 1) := by
  unfold e8
  rw [eightTo_succ, List.set_append_right _ _ (by rw [eightTo_len]; exact Nat.le_refl _), eightTo_len, Nat.sub_self, show 8 - k = (8 - (k + 1)) + 1 by omega]
  simp [zeros9, List.replicate_succ]
theorem e8_done (n : Int) : e8 n 8 = eightL n := by unfold e8 eightL; simp [zeros9]

set_option maxRecDepth 100000 in
set_option maxHeartbeats 1000000 in
theorem reight_any (n : Int) (w : World) (hn : 0 ≤ n ∧ n < 18446744073709551616) : Calls Try.prog 39 #[.int .u64 n] w fun e w' => e = .returned (.string (strOfNums (eightL n))) ∧ Below w.heap.size w w' := by
  have hmk : (Instr.makeSlice 42 (.int .i64 8) (.int .i64 8)).run Try.prog w = .ok (.slice (some ⟨w.heap.size, 0, none⟩) 8 8) (w.alloc (.cells ((zeros9 8).map u8v).toArray 5)) := run_make_bytes9 8 (by decide) w
  have hh := heap_alloc_new w (.cells ((zeros9 8).map u8v).toArray 5)
  have hb0 := below_alloc (Below.refl w.heap.size w) (.cells ((zeros9 8).map u8v).toArray 5)
  have HH := hide hh
  have HB0 := hide hb0
  clear hh hb0
  go_enter Try.func39, Try.ntmps39
  go_wp2_with fail
  go_loopw [4] (fun i wr => ∃ k : Nat, k ≤ 8 ∧ i = .int .i64 k ∧ wr.heap[w.heap.size]? = some (.cells ((e8 n k).map u8v).toArray 5 (0, 0)) ∧ Below w.heap.size w wr) (fun i _ => (8 - intOf i).toNat)
  case atStart => exact ⟨0, by omega, rfl, HH.out, HB0.out⟩
  case round =>
    clear hmk HH HB0
    obtain ⟨k, hk, rfl, hh, hb⟩ := hrel
    have HH := hide hh
    have HB := hide hb
    have hg : w.heap.size < wr.heap.size := (Array.getElem?_eq_some_iff.1 hh).1
    have hfz := row_free hh
    have hfk := hfz k
    clear hfz hh hb
    by_cases h8 : k < 8
    · obtain ⟨b, off, hA, hbb, c0⟩ := RowAt.one (vals_of_block HH.out) (Below.refl _ _) (show k < (e8 n k).length by rw [e8_len n k hk]; exact h8)
      obtain ⟨rfl, rfl⟩ : w.heap.size = b ∧ 0 = off := by injection hA with h; injection h; exact ⟨by assumption, by assumption⟩
      rw [Nat.zero_add] at c0
      obtain ⟨sh, hsh⟩ : ∃ sh : Nat, 56 - 8 * (k : Int) = sh := ⟨56 - 8 * k, by omega⟩
      have HSN : Hid (sh = 56 - 8 * k) := hide (by omega)
      have hs1 : (sh : Int) ≤ 56 := by omega
      have h8I : (k : Int) < 8 := by omega
      clear hA
      generalize (e8 n k)[k]'(by rw [e8_len n k hk]; exact h8) = z at *
      go_wp2_with fail
      exact ⟨⟨k + 1, by omega, by go_num, by rw [← e8_set n k h8, List.map_set, ← HSN.out]; exact heap_setB9 HH.out, HB.out.setCell (Nat.le_refl _) _⟩, by simp [intOf]; omega⟩
    · obtain rfl : k = 8 := by omega
      have hcv := conv_vals9 (c := 8) (vals_of_block HH.out) (by unfold e8; rw [eightTo_succ]; simp)
      rw [e8_len n 8 (Nat.le_refl _), e8_done] at hcv
      go_wp2_with fail
      go_ret
      exact ⟨rfl, HB.out⟩
set_option maxRecDepth 100000 in
set_option maxHeartbeats 1600000 in
theorem rkey_any (x : It) (w : World) (hx : x.wf) : Calls Try.prog 23 #[x.val] w fun e w' => e = .returned (.string (strOfNums (keyL x))) ∧ Below w.heap.size w w' := by
  have ht : 0 ≤ x.t ∧ x.t < 18446744073709551616 := by unfold It.wf at hx; omega
  have HE := hide (fun W => reight_any x.t W ht)
  have hes : strOfNums [x.s % 256, x.k % 256] ++ strOfNums (eightL x.t) = strOfNums (keyL x) := (strOfNums_app9 _ _).symm
  have hnl : ¬ 9223372036854775807 < (strOfNums [x.s % 256, x.k % 256]).size + (strOfNums (eightL x.t)).size := by rw [str_len9, str_len9]; simp [eightL, eightTo_len]
  generalize eightL x.t = el at *
  generalize strOfNums el = es at *
  have CV : ∀ W : World, (convert 42 9 (.slice (some ⟨W.heap.size, 0, none⟩) 2 2)).run Try.prog (W.alloc (.cells #[.int .u8 (x.s % 256), .int .u8 (x.k % 256)] 5)) = .ok (.string (strOfNums [x.s % 256, x.k % 256])) (W.alloc (.cells #[.int .u8 (x.s % 256), .int .u8 (x.k % 256)] 5)) :=
    fun W => conv_vals9 (c := 2) (vals_of_block (L := [x.s % 256, x.k % 256]) (heap_alloc_new W _)) (by simp)
  have CV2 : ∀ W V : World, Below (W.alloc (.cells #[.int .u8 (x.s % 256), .int .u8 (x.k % 256)] 5)).heap.size (W.alloc (.cells #[.int .u8 (x.s % 256), .int .u8 (x.k % 256)] 5)) V → (convert 42 9 (.slice (some ⟨W.heap.size, 0, none⟩) 2 2)).run Try.prog V = .ok (.string (strOfNums [x.s % 256, x.k % 256])) V :=
    fun W V hV => conv_vals9 (c := 2) ((vals_of_block (L := [x.s % 256, x.k % 256]) (heap_alloc_new W _)).below hV) (by simp)
  generalize strOfNums [x.s % 256, x.k % 256] = sk at *
  have HES := hide hes
  have HCV := hide CV
  have HCV2 := hide CV2
  clear hes CV CV2
  obtain ⟨wx, hwx⟩ : ∃ wx, w.alloc (.cells #[.int .i64 x.s, .int .i64 x.k, .int .u64 x.t, .int .u64 x.v, .int .i64 x.x] 24) = wx := ⟨_, rfl⟩
  have hbx : Below w.heap.size w wx := by rw [← hwx]; exact below_alloc (Below.refl _ _) _
  have hgx := res_box9 (show wx.heap[w.heap.size]? = some (.cells #[.int .i64 x.s, .int .i64 x.k, .int .u64 x.t, .int .u64 x.v, .int .i64 x.x] 24 (0, 0)) by rw [← hwx]; exact heap_alloc_new w _)
  have HK : Hid (∀ W : World, Below wx.heap.size wx W → W.cell? ⟨w.heap.size, 0, none⟩ = some (.int .i64 x.s) ∧ W.cell? ⟨w.heap.size, 1, none⟩ = some (.int .i64 x.k) ∧ W.cell? ⟨w.heap.size, 2, none⟩ = some (.int .u64 x.t)) := by
    refine hide fun W hW => ?_
    obtain ⟨g0, g1, g2, g3, _⟩ := hgx
    exact ⟨(hW.cell (p := ⟨_, _, none⟩) g0).trans g1, (hW.cell (p := ⟨_, _, none⟩) g0).trans g2, (hW.cell (p := ⟨_, _, none⟩) g0).trans g3⟩
  have HBX := hide hbx
  clear hgx hbx ht hx
  have hc1 : (convert 42 9 (.slice (some ⟨wx.heap.size, 0, none⟩) 2 2)).run Try.prog ((wx.alloc (.cells #[.int .u8 (x.s % 256), .int .u8 (x.k % 256)] 5)).drew) = .ok (.string sk) ((wx.alloc (.cells #[.int .u8 (x.s % 256), .int .u8 (x.k % 256)] 5)).drew) := HCV.out wx.drew
  have hw1 : IntKind.u8.wrap x.s = x.s % 256 := IntKind.wrap_u8 _
  have hw2 : IntKind.u8.wrap x.k = x.k % 256 := IntKind.wrap_u8 _
  obtain ⟨x0, x1, x2⟩ := HK.out wx (Below.refl _ _)
  go_enter Try.func23, Try.ntmps23
  go_upto_region 1 with fail
  try rw [hwx]
  clear hwx
  -- REGION 1
  refine bel_start (by kernel_rfl) ?_
  refine' bel_take (i := 0) (v := _) ?hi0 (by kernel_rfl) (by kernel_rfl) (by kernel_rfl) (Or.inl ⟨?hw0, ?hy0⟩) ?rest0
  case hi0 => (simp only [List.getElem?_toArray, List.getElem?_cons_succ, List.getElem?_cons_zero]; rfl)
  case hw0 => rfl
  case hy0 => (intro w' hw'; go_simp; try with_reducible rfl)
  try simp only [Act.put, List.setIfInBounds_toArray, List.set_cons_zero, List.set_cons_succ]
  refine' bel_take (i := 1) (v := _) ?hi1 (by kernel_rfl) (by kernel_rfl) (by kernel_rfl) (Or.inl ⟨?hw1, ?hy1⟩) ?rest1
  case hi1 => (simp only [List.getElem?_toArray, List.getElem?_cons_succ, List.getElem?_cons_zero]; rfl)
  case hw1 => rfl
  case hy1 => (intro w' hw'; obtain ⟨x0, x1, x2⟩ := HK.out w' (below_step ((Below.refl wx.heap.size wx).drew) hw'); go_simp; try with_reducible rfl)
  try simp only [Act.put, List.setIfInBounds_toArray, List.set_cons_zero, List.set_cons_succ]
  refine' bel_take (i := 2) (v := _) ?hi2 (by kernel_rfl) (by kernel_rfl) (by kernel_rfl) (Or.inl ⟨?hw2, ?hy2⟩) ?rest2
  case hi2 => (simp only [List.getElem?_toArray, List.getElem?_cons_succ, List.getElem?_cons_zero]; rfl)
  case hw2 => rfl
  case hy2 => (intro w' hw'; go_simp; try with_reducible rfl)
  try simp only [Act.put, List.setIfInBounds_toArray, List.set_cons_zero, List.set_cons_succ]
  refine' bel_take (i := 3) (v := _) ?hi3 (by kernel_rfl) (by kernel_rfl) (by kernel_rfl) (Or.inl ⟨?hw3, ?hy3⟩) ?rest3
  case hi3 => (simp only [List.getElem?_toArray, List.getElem?_cons_succ, List.getElem?_cons_zero]; rfl)
  case hw3 => rfl
  case hy3 => (intro w' hw'; go_simp; try with_reducible rfl)
  try simp only [Act.put, List.setIfInBounds_toArray, List.set_cons_zero, List.set_cons_succ]
  refine' bel_take (i := 4) (v := _) ?hi4 (by kernel_rfl) (by kernel_rfl) (by kernel_rfl) (Or.inl ⟨?hw4, ?hy4⟩) ?rest4
  case hi4 => (simp only [List.getElem?_toArray, List.getElem?_cons_succ, List.getElem?_cons_zero]; rfl)
  case hw4 => rfl
  case hy4 => (intro w' hw'; obtain ⟨x0, x1, x2⟩ := HK.out w' (below_step ((Below.refl wx.heap.size wx).drew) hw'); go_simp; try with_reducible rfl)
  try simp only [Act.put, List.setIfInBounds_toArray, List.set_cons_zero, List.set_cons_succ]
  refine' bel_take (i := 5) (v := _) ?hi5 (by kernel_rfl) (by kernel_rfl) (by kernel_rfl) (Or.inl ⟨?hw5, ?hy5⟩) ?rest5
  case hi5 => (simp only [List.getElem?_toArray, List.getElem?_cons_succ, List.getElem?_cons_zero]; rfl)
  case hw5 => rfl
  case hy5 => (intro w' hw'; go_simp; try with_reducible rfl)
  try simp only [Act.put, List.setIfInBounds_toArray, List.set_cons_zero, List.set_cons_succ]
  refine' bel_take (i := 8) (v := _) ?hi8 (by kernel_rfl) (by kernel_rfl) (by kernel_rfl) (Or.inl ⟨?hw8, ?hy8⟩) ?rest8
  case hi8 => (simp only [List.getElem?_toArray, List.getElem?_cons_succ, List.getElem?_cons_zero]; rfl)
  case hw8 => rfl
  case hy8 => (intro w' hw'; go_simp; try with_reducible rfl)
  try simp only [Act.put, List.setIfInBounds_toArray, List.set_cons_zero, List.set_cons_succ]
  refine' bel_take (i := 9) (v := _) ?hi9 (by kernel_rfl) (by kernel_rfl) (by kernel_rfl) (Or.inl ⟨?hw9, ?hy9⟩) ?rest9
  case hi9 => (simp only [List.getElem?_toArray, List.getElem?_cons_succ, List.getElem?_cons_zero]; rfl)
  case hw9 => rfl
  case hy9 => (intro w' hw'; obtain ⟨x0, x1, x2⟩ := HK.out w' (below_step ((Below.refl wx.heap.size wx).drew) hw'); go_simp; try with_reducible rfl)
  try simp only [Act.put, List.setIfInBounds_toArray, List.set_cons_zero, List.set_cons_succ]
  refine wpAnyH_ready (rs := [6, 10]) (by kernel_rfl) (by simp) ?_
  refine' AllReadyH.cons (o := _) ?ho6 (fun K hK => ?step6) (AllReadyH.cons (o := _) ?ho10 (fun K hK => ?step10) AllReadyH.nil)
  case ho6 => (simp only [List.getElem?_toArray, List.getElem?_cons_succ, List.getElem?_cons_zero]; rfl)
  case ho10 => (simp only [List.getElem?_toArray, List.getElem?_cons_succ, List.getElem?_cons_zero]; rfl)
  case step6 =>
    go_simp
    have gA : Below wx.drew.heap.size wx.drew (wx.drew.alloc (.cells #[.int .u8 (x.s % 256), .int .u8 (x.k % 256)] 5)) := below_alloc (Below.refl _ _) _
    refine hK.out _ _ gA (fun _ => bel_switch gA ?_)
    clear hK K
    try simp only [Act.put, List.setIfInBounds_toArray, List.set_cons_zero, List.set_cons_succ]
    refine' bel_take (i := 7) (v := _) ?hi7a (by kernel_rfl) (by kernel_rfl) (by kernel_rfl) (Or.inl ⟨?hw7a, ?hy7a⟩) ?rest7a
    case hi7a => (simp only [List.getElem?_toArray, List.getElem?_cons_succ, List.getElem?_cons_zero]; rfl)
    case hw7a => rfl
    case hy7a => (intro w' hw'; have hc : (convert 42 9 (.slice (some ⟨wx.heap.size, 0, none⟩) 2 2)).run Try.prog w' = .ok (.string sk) w' := HCV2.out wx.drew w' hw'; go_simp; try with_reducible rfl)
    try simp only [Act.put, List.setIfInBounds_toArray, List.set_cons_zero, List.set_cons_succ]
    refine wpAnyH_ready (rs := [10]) (by kernel_rfl) (by simp) ?_
    refine' AllReadyH.cons (o := _) ?ho10a (fun K hK => ?step10a) AllReadyH.nil
    case ho10a => (simp only [List.getElem?_toArray, List.getElem?_cons_succ, List.getElem?_cons_zero]; rfl)
    go_simp
    refine (Calls.mono (HE.out _) ?_); rintro e uA ⟨rfl, gA2⟩
    refine hK.out _ _ gA2 (fun _ => bel_switch gA2 ?_)
    clear hK K
    try simp only [Act.put, List.setIfInBounds_toArray, List.set_cons_zero, List.set_cons_succ]
    refine' bel_take (i := 11) (v := _) ?hi11a (by kernel_rfl) (by kernel_rfl) (by kernel_rfl) (Or.inl ⟨?hw11a, ?hy11a⟩) ?rest11a
    case hi11a => (simp only [List.getElem?_toArray, List.getElem?_cons_succ, List.getElem?_cons_zero]; rfl)
    case hw11a => rfl
    case hy11a => (intro w' hw'; go_simp; try with_reducible rfl)
    try simp only [Act.put, List.setIfInBounds_toArray, List.set_cons_zero, List.set_cons_succ]
    refine' bel_take (i := 12) (v := _) ?hi12a (by kernel_rfl) (by kernel_rfl) (by kernel_rfl) (Or.inl ⟨?hw12a, ?hy12a⟩) ?rest12a
    case hi12a => (simp only [List.getElem?_toArray, List.getElem?_cons_succ, List.getElem?_cons_zero]; rfl)
    case hw12a => rfl
    case hy12a => (intro w' hw'; go_simp; try with_reducible rfl)
    try simp only [Act.put, List.setIfInBounds_toArray, List.set_cons_zero, List.set_cons_succ]
    refine wpAnyH_done (by kernel_rfl) ?_ _
    refine NoPanic.normal ?_
    go_wp2_with fail
    go_ret
    exact ⟨congrArg (fun s => Ending.returned (.string s)) HES.out, below_step (below_step (below_step HBX.out (Below.refl wx.heap.size wx).drew) gA) gA2⟩
  case step10 =>
    go_simp
    refine (Calls.mono (HE.out _) ?_); rintro e uB ⟨rfl, gB⟩
    refine hK.out _ _ gB (fun _ => bel_switch gB ?_)
    clear hK K
    try simp only [Act.put, List.setIfInBounds_toArray, List.set_cons_zero, List.set_cons_succ]
    refine wpAnyH_ready (rs := [6]) (by kernel_rfl) (by simp) ?_
    refine' AllReadyH.cons (o := _) ?ho6b (fun K hK => ?step6b) AllReadyH.nil
    case ho6b => (simp only [List.getElem?_toArray, List.getElem?_cons_succ, List.getElem?_cons_zero]; rfl)
    go_simp
    have gB2 : Below uB.heap.size uB (uB.alloc (.cells #[.int .u8 (x.s % 256), .int .u8 (x.k % 256)] 5)) := below_alloc (Below.refl _ _) _
    refine hK.out _ _ gB2 (fun _ => bel_switch gB2 ?_)
    clear hK K
    try simp only [Act.put, List.setIfInBounds_toArray, List.set_cons_zero, List.set_cons_succ]
    refine' bel_take (i := 7) (v := _) ?hi7b (by kernel_rfl) (by kernel_rfl) (by kernel_rfl) (Or.inl ⟨?hw7b, ?hy7b⟩) ?rest7b
    case hi7b => (simp only [List.getElem?_toArray, List.getElem?_cons_succ, List.getElem?_cons_zero]; rfl)
    case hw7b => rfl
    case hy7b => (intro w' hw'; have hc : (convert 42 9 (.slice (some ⟨uB.heap.size, 0, none⟩) 2 2)).run Try.prog w' = .ok (.string sk) w' := HCV2.out uB w' hw'; go_simp; try with_reducible rfl)
    try simp only [Act.put, List.setIfInBounds_toArray, List.set_cons_zero, List.set_cons_succ]
    refine' bel_take (i := 11) (v := _) ?hi11b (by kernel_rfl) (by kernel_rfl) (by kernel_rfl) (Or.inl ⟨?hw11b, ?hy11b⟩) ?rest11b
    case hi11b => (simp only [List.getElem?_toArray, List.getElem?_cons_succ, List.getElem?_cons_zero]; rfl)
    case hw11b => rfl
    case hy11b => (intro w' hw'; go_simp; try with_reducible rfl)
    try simp only [Act.put, List.setIfInBounds_toArray, List.set_cons_zero, List.set_cons_succ]
    refine' bel_take (i := 12) (v := _) ?hi12b (by kernel_rfl) (by kernel_rfl) (by kernel_rfl) (Or.inl ⟨?hw12b, ?hy12b⟩) ?rest12b
    case hi12b => (simp only [List.getElem?_toArray, List.getElem?_cons_succ, List.getElem?_cons_zero]; rfl)
    case hw12b => rfl
    case hy12b => (intro w' hw'; go_simp; try with_reducible rfl)
    try simp only [Act.put, List.setIfInBounds_toArray, List.set_cons_zero, List.set_cons_succ]
    refine wpAnyH_done (by kernel_rfl) ?_ _
    refine NoPanic.normal ?_
    go_wp2_with fail
    go_ret
    exact ⟨congrArg (fun s => Ending.returned (.string s)) HES.out, below_step (below_step (below_step HBX.out (Below.refl wx.heap.size wx).drew) gB) gB2⟩
-- BEHIND KEY
set_option maxHeartbeats 1000000 in
theorem height9_any (x : It) (w : World) (hx : x.wf) : Calls Try.prog 10 #[x.val] w fun e w' => e = .returned (.int .i64 (hgt (keyL x))) ∧ Below w.heap.size w w' := by
  go_enter Try.func10, Try.ntmps10
  have HB := hide (below_alloc (Below.refl w.heap.size w) (.cells (It.cells x).toArray 24))
  go_wp2_with fail
  refine (Calls.mono (rkey_any x _ hx) ?_); rintro e w1 ⟨rfl, hb⟩
  have HB1 := hide (below_step HB.out hb)
  have HL := hide (keyL_len x)
  clear hb HB
  go_wp2_with fail
  refine (Calls.mono (rhash_any9 (keyL x) _ (by rw [HL.out]; omega) keyL_b) ?_); rintro e w2 ⟨rfl, hb⟩
  have HB2 := hide (below_step HB1.out hb)
  have HHB := hide (hashL_bd (keyL x))
  clear hb HB1
  go_wp2_with fail
  go_loopw [3, 4] (fun h n wr => ∃ (f : Nat) (x' : Int), f ≤ 5 ∧ n = .int .i64 (6 - (f : Int)) ∧ h = .int .u64 x' ∧ 0 ≤ x' ∧ x' < 18446744073709551616 ∧ 6 - (f : Int) + hgtAux f x' = hgt (keyL x) ∧ Below w.heap.size w wr) (fun _ n _ => (6 - intOf n).toNat)
  case atStart => exact ⟨5, _, by omega, rfl, rfl, HHB.out.1, HHB.out.2, rfl, HB2.out⟩
  case round =>
    clear HHB
    obtain ⟨f, y, hf, rfl, rfl, hy0, hy1, he, hb⟩ := hrel
    have HE := hide he
    have HB := hide hb
    clear he hb HB2
    rcases f with _ | f
    · go_wp2_with fail
      go_ret
      exact ⟨congrArg (fun v => Ending.returned (.int .i64 v)) (by rw [← HE.out]; rfl), HB.out⟩
    · have hlt : 6 - ((f + 1 : Nat) : Int) < 6 := by omega
      have hlt' : 6 - ((f : Int) + 1) < 6 := by omega
      by_cases hy : bits .and .u64 y 3 = 0
      · have HE2 := hide ((show hgtAux (f + 1) y = 1 + hgtAux f (y / 4) by rw [hgtAux, if_pos hy]))
        go_wp2_with fail
        go_roundw
        case rel => exact ⟨f, y / 4, by omega, by go_num, rfl, by omega, by omega, by rw [← HE.out, HE2.out]; omega, HB.out⟩
        case measure => simp [intOf]; omega
      · have HE2 := hide ((show hgtAux (f + 1) y = 0 by rw [hgtAux, if_neg hy]))
        go_wp2_with fail
        go_ret
        exact ⟨congrArg (fun v => Ending.returned (.int .i64 v)) (by rw [← HE.out, HE2.out, Int.add_zero]), HB.out⟩
end Go.Proofs.Ytoejhekmfgkklaa
