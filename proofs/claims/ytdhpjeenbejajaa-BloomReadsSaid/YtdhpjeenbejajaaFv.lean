/- What is read of a filter, wherever it came from (bloom and the document's): contracts. Conditions: typed at each. -/
import Derived.Test.YtdhpjeenbejajaaRb2
namespace Go.Proofs.Ytdhpjeenbejajaa
set_option linter.unusedVariables false
set_option linter.unusedSimpArgs false
open Go.ChangeShapes Go.WideShapes Go.ChangeAt Go.RowKit

/-- A filter as it is read: its struct's cells in block p, its bytes at the head of block g. -/
structure Fv (w : World) (p g gc k : Nat) (B : List Int) : Prop where
  c0 : w.cell? ⟨p, 0, none⟩ = some (.int .i64 k)
  c1 : w.cell? ⟨p, 1, none⟩ = some (.slice (some ⟨g, 0, none⟩) B.length gc)
  hp : p < w.heap.size
  row : ValsAt u8v w (some ⟨g, 0, none⟩) B
  k1 : 1 ≤ k ∧ k ≤ 14
  len : 1 ≤ B.length ∧ B.length ≤ 25000
  byt : ∀ b ∈ B, isB b
theorem Fv.below {w w' : World} {p g gc k : Nat} {B : List Int} (h : Fv w p g gc k B) (hb : Below w.heap.size w w') : Fv w' p g gc k B :=
  { h with c0 := (hb.cell (p := ⟨p, 0, none⟩) h.hp).trans h.c0, c1 := (hb.cell (p := ⟨p, 1, none⟩) h.hp).trans h.c1, hp := Nat.lt_of_lt_of_le h.hp hb.size, row := h.row.below hb }
theorem Fv.cell {w : World} {p g gc k : Nat} {B : List Int} (h : Fv w p g gc k B) {m : Nat} (hm : m < B.length) : w.cell? ⟨g, m, none⟩ = some (.int .u8 (B[m]?.getD 0)) := by
  obtain ⟨b, off, hA, _, hc⟩ := RowAt.one (val := u8v) h.row (Below.refl _ _) hm
  injection hA with hA
  injection hA with e1 e2 _
  subst e1 e2
  rw [Nat.zero_add] at hc
  rw [hc]
  simp [hm]
theorem Flt.fv {w : World} {p g k : Nat} {B : List Int} (h : Flt w p g k B) : Fv w p g B.length k B := ⟨h.cells.1, h.cells.2, h.lt.1, h.row, h.k1, h.len, h.byt⟩
theorem RFlt.fv {w : World} {p g k : Nat} {B : List Int} (h : RFlt w p g k B) : Fv w p g B.length k B := ⟨h.cells.1, h.cells.2, h.lt.1, h.row, h.k1, h.len, h.byt⟩

set_option maxHeartbeats 1000000 in
theorem places_v {p g gc k : Nat} {B : List Int} (A : Option Addr) (c : Nat) (L : List Int) (w : World) (hF : Fv w p g gc k B) (hl : L.length ≤ 9223372036854775807) (hL : ValsAt u8v w A L) (hB : ∀ b ∈ L, isB b) :
    Calls Try.prog 22 #[.pointer (some ⟨p, 0, none⟩), .slice A L.length c] w fun e w' => ∃ v, e = .returned v ∧ OwnL (one1 i64v) 1 3 w.heap.size w' v (placesL (hashL L) B.length k) ∧ Below w.heap.size w w' := by
  have HH := hide (hash_any A c L w hl hL hB)
  have hh := hashL_bd L
  generalize hashL L = h at *
  have c0 := hF.c0; have c1 := hF.c1
  have hlp := hF.hp
  have hk1 := hF.k1
  have hln := hF.len
  go_enter Try.func22, Try.ntmps22
  go_wp2_with fail
  refine (Calls.mono HH.out ?_); rintro e w1 ⟨rfl, hg1⟩
  have c0 := (hg1.cell (p := ⟨p, _, none⟩) hlp).trans c0
  have c1 := (hg1.cell (p := ⟨p, _, none⟩) hlp).trans c1
  go_wp2_with fail
  have HB1 := hide hg1
  have HP := hide (And.intro c0 c1)
  clear hg1 HH c0 c1
  have hm := plc_bd h B.length
  generalize hN : B.length = n at *
  go_loopw [9, 29] (fun v i wr => ∃ j : Nat, j ≤ k ∧ i = .int .i64 j ∧ OwnL (one1 i64v) 1 3 w.heap.size wr v (placesL h n j) ∧ Below w.heap.size w wr) (fun _ i _ => k - (intOf i).toNat)
  case atStart => exact ⟨0, by omega, rfl, OwnL.nil_ _ _ _ _ _, HB1.out⟩
  case round =>
    obtain ⟨j, hj, rfl, ho, hb⟩ := hrel
    have HO := hide ho
    have HB := hide hb
    have hbs := hb.size
    clear ho hb
    by_cases hlt : j < k
    · have hl2 : (placesL h n j).length = j := by simp [placesL]
      have HL2 := hide hl2
      clear hl2
      go_wp2_with (at_builtin; refine wpList_append_one rfl (.tmp 32) (.tmp 42) 52 3 _ 8 rfl Try.underlying52 Try.infoInt rfl (fun _ => rfl) (by omega) _ _ _ _ _ _ (placesL h n j) _ rfl rfl rfl HO.out HB.out (Nat.le_refl _) hbs (by rw [HL2.out]; omega) ?_; intro v1 u1 ho1 hbu1 hgu1)
      have hp := hm j (by omega)
      have hw : wrap64 ((h + (j : Int) * (h / 4294967296)) % 4294967296 % ((n : Int) * 8)) = plc h n j := by
        show wrap64 (plc h n j) = plc h n j
        generalize plc h n j = q at *
        unfold wrap64
        omega
      rw [hw, ← placesL_succ] at ho1
      exact ⟨⟨j + 1, by omega, by go_num, ho1, hbu1⟩, by simp [intOf]; omega⟩
    · obtain rfl : j = k := by omega
      go_wp2
      go_ret
      exact ⟨u9, rfl, by rw [hN]; exact HO.out, HB.out⟩

set_option maxHeartbeats 1000000 in
theorem has1_v {p g gc k h : Nat} {B : List Int} (q : Int) (w : World) (hF : Fv w p g gc k B) (hh : w.cell? ⟨h, 0, none⟩ = some (.pointer (some ⟨p, 0, none⟩))) (hq : 0 ≤ q ∧ q < B.length * 8) :
    Calls Try.prog 23 #[.int .i64 q, .pointer (some ⟨h, 0, none⟩)] w fun e w' => e = .returned (.bool (clrP B q)) ∧ Below w.heap.size w w' := by
  have f0 := hF.c0; have f1 := hF.c1
  obtain ⟨m, r, hm, hr, hmn, hr8, hd, hd2⟩ := idx_facts hq hF.len.2
  have f2 := hF.cell hmn
  have hc : clrP B q = clrB (B[m]?.getD 0) r := by unfold clrP; rw [hm, hr]; simp
  have HC := hide hc
  have hx := getD_isB hF.byt m
  unfold isB at hx
  generalize B[m]?.getD 0 = x at *
  clear hc hm hr hq
  have hmn2 : (m : Int) < (B.length : Int) := by omega
  go_enter Try.func23, Try.ntmps23
  go_wp2_with fail
  go_ret
  exact ⟨by rw [HC.out]; rfl, Below.refl _ _⟩


set_option maxHeartbeats 1000000 in
theorem has_v {p g gc k : Nat} {B : List Int} (A : Option Addr) (c : Nat) (L : List Int) (w : World) (hF : Fv w p g gc k B) (hl : L.length ≤ 9223372036854775807) (hL : ValsAt u8v w A L) (hB : ∀ b ∈ L, isB b) :
    Calls Try.prog 10 #[.pointer (some ⟨p, 0, none⟩), .slice A L.length c] w fun e w' => e = .returned (.bool (hasL B (placesL (hashL L) B.length k))) ∧ Below w.heap.size w w' := by
  have HF := hide hF
  have HL := hide hL
  have hpb := placesL_bd (h := hashL L) (n := B.length) (k := k) (by have := hF.len; omega)
  have hpn : (placesL (hashL L) B.length k).length = k := by simp [placesL]
  have HPB := hide hpb
  have HPN := hide hpn
  have hk1 := hF.k1
  have HK1 := hide hk1
  clear hF hL hpb hpn hk1
  go_enter Try.func10, Try.ntmps10
  go_wp2_with fail
  have hb0 : Below w.heap.size w (w.alloc (.cells #[.pointer (some ⟨p, 0, none⟩)] 23)) := below_alloc (Below.refl _ _) _
  refine (Calls.mono (places_v A c L (w.alloc (.cells #[.pointer (some ⟨p, 0, none⟩)] 23)) (HF.out.below hb0) hl (HL.out.below hb0) hB) ?_); rintro e w1 ⟨v, rfl, ho, hg1⟩
  have hx1 := (hg1.block w.heap.size (by simp)).trans (heap_alloc_new w (.cells #[.pointer (some ⟨p, 0, none⟩)] 23))
  have HB1 := hide (below_step hb0 hg1)
  obtain ⟨A1, c1, rfl, hr1, _, _⟩ := ho.vals
  have HR := hide hr1
  have HX := hide hx1
  clear ho hg1 hr1 hx1 hb0
  generalize hPS : placesL (hashL L) B.length k = ps at *
  go_wp2_with fail
  have hlt0 : w.heap.size < w1.heap.size := (Array.getElem?_eq_some_iff.1 HX.out).1
  have hT : TellsN 23 #[.pointer (some ⟨w.heap.size, 0, none⟩)] (clrP B) ps w1 := fun x hx W hbW =>
    has1_v x W ((HF.out.below HB1.out).below hbW) (((hbW.cell (p := ⟨w.heap.size, 0, none⟩) hlt0)).trans ((cell_of_row w1 w.heap.size 0 _ _ _ HX.out).trans rfl)) (HPB.out x hx)
  refine (Calls.mono (containsN_any 23 #[.pointer (some ⟨w.heap.size, 0, none⟩)] (fun args W => by kernel_rfl) (clrP B) A1 c1 ps w1 (by rw [HPN.out]; have := HK1.out; omega) HR.out hT) ?_); rintro e w2 ⟨rfl, hg2⟩
  have HB2 := hide (below_step HB1.out hg2)
  go_wp2_with fail
  go_ret
  exact ⟨by rw [hPS]; rfl, HB2.out⟩


set_option maxHeartbeats 1000000 in
theorem ones_v {p g gc k : Nat} {B : List Int} (w : World) (hF : Fv w p g gc k B) :
    Calls Try.prog 12 #[.pointer (some ⟨p, 0, none⟩)] w fun e w' => e = .returned (.int .i64 (onesN B)) ∧ Below w.heap.size w w' := by
  have f0 := hF.c0; have f1 := hF.c1
  have hr := hF.row
  have hbt := hF.byt
  have hln := hF.len
  go_enter Try.func12, Try.ntmps12
  go_wp2_with fail
  clear f0 f1
  go_loopw [3, 11] (fun v i wr => ∃ j : Nat, j ≤ B.length ∧ i = .int .i64 j ∧ v = .int .i64 (onesN (B.take j)) ∧ Below w.heap.size w wr) (fun _ i _ => B.length - (intOf i).toNat)
  case atStart => exact ⟨0, by omega, rfl, rfl, Below.refl _ _⟩
  case round =>
    obtain ⟨j, hj, rfl, rfl, hb⟩ := hrel
    by_cases hlt : j < B.length
    · obtain ⟨b, off, hA, hbb, c0⟩ := RowAt.one (val := u8v) hr hb hlt
      injection hA with hA
      injection hA with h1 h2 _
      subst h1 h2
      have hx := hbt (B[j]'hlt) (List.getElem_mem hlt)
      have h2 := onesN_snoc (B.take j) (B[j]'hlt)
      rw [← take_snoc hlt] at h2
      have H2 := hide h2
      have h3 := onesN_le (B := B.take j) (fun b hb => hbt b (List.mem_of_mem_take hb))
      have h4 : (B.take j).length = j := by rw [List.length_take]; omega
      rw [h4] at h3
      have h5 := ones8_le hx
      clear h2 h4
      generalize (B[j]'hlt) = x at *
      have HK := hide (ones8_any x wr hx)
      generalize onesN (B.take j) = n at *
      have c0 : wr.cell? ⟨g, 0 + j, none⟩ = some (.int .u8 x) := c0
      rw [Nat.zero_add] at c0
      go_wp2_with fail
      refine (Calls.mono HK.out ?_); rintro e w1 ⟨rfl, hg1⟩
      generalize pop x = y at *
      go_wp2_with fail
      exact ⟨⟨j + 1, by omega, by go_num, by rw [H2.out]; go_num, hb⟩, by simp [intOf]; omega⟩
    · have ht : B.take j = B := List.take_of_length_le (by omega)
      rw [ht]
      go_wp2_with fail
      go_ret
      exact ⟨rfl, hb⟩

set_option maxHeartbeats 1000000 in
theorem bytes_v {p g gc k : Nat} {B : List Int} (w : World) (hF : Fv w p g gc k B) :
    Calls Try.prog 13 #[.pointer (some ⟨p, 0, none⟩)] w fun e w' => ∃ v, e = .returned v ∧ OwnL (one1 u8v) 1 5 w.heap.size w' v (bytesL k B) ∧ Below w.heap.size w w' := by
  have hc := And.intro hF.c0 hF.c1
  obtain ⟨hln1, hln2⟩ := hF.len
  obtain ⟨hk1, hk2⟩ := hF.k1
  have HF := hide hF
  have hpl := hF.hp
  clear hF
  go_enter Try.func13, Try.ntmps13
  go_wp2_with fail
  have hwk : IntKind.u64.wrap (k : Int) = k := by rw [IntKind.wrap_u64]; omega
  have hwn : IntKind.u64.wrap (B.length : Int) = B.length := by rw [IntKind.wrap_u64]; omega
  have q1 : ([] ++ putL (k : Int)).length ≤ 1099511627776 := by rw [List.nil_append]; have := putL_len k; omega
  have q2 : (([] ++ putL (k : Int)) ++ putL (B.length : Int)).length + B.length ≤ 2199023255552 := by rw [List.nil_append, List.length_append]; have h1 := putL_len k; have h2 := putL_len B.length; omega
  have q3 : (0 : Int) ≤ (k : Int) ∧ (k : Int) < 18446744073709551616 := by omega
  have q4 : (0 : Int) ≤ (B.length : Int) ∧ (B.length : Int) < 18446744073709551616 := by omega
  have Q1 := hide q1
  have Q2 := hide q2
  have Q3 := hide q3
  have Q4 := hide q4
  have Q5 : Hid (([] ++ putL (k : Int)) ++ putL (B.length : Int) ++ B = bytesL k B) := hide (by unfold bytesL; rw [List.nil_append])
  clear q1 q2 q3 q4
  have tk1 : True := trivial
  have tk2 : True := trivial
  have HCB : Hid (∀ W, Below w.heap.size w W → W.cell? ⟨p, 0, none⟩ = some (.int .i64 k) ∧ W.cell? ⟨p, 1, none⟩ = some (.slice (some ⟨g, 0, none⟩) B.length gc)) := hide (fun W hW => ⟨(HF.out.below hW).c0, (HF.out.below hW).c1⟩)
  have HB0 : Hid (Below w.heap.size w w.drew) := hide (Below.refl _ _).drew
  go_region_held3 (fun w' => w'.cell? ⟨p, 0, none⟩ = some (.int .i64 k) ∧ w'.cell? ⟨p, 1, none⟩ = some (.slice (some ⟨g, 0, none⟩) B.length gc)) (first | exact HCB.out _ HB0.out | exact HCB.out _ HB1.out | exact HCB.out _ HB2.out | exact HCB.out _ HB3.out) (first
    | (go_at_call 25; have _t := tk1; refine (Calls.mono (put_any none 0 [] k _ (Nat.zero_le _) RowAt.nil_ Q3.out) ?_); rintro e w1 ⟨v1, rfl, ho1, hg1⟩; have HB1 := hide (below_step HB0.out hg1); have HO1 := hide ho1; clear tk1 _t hg1 ho1)
    | (go_at_call 25; have _t := tk2; obtain ⟨A1, c1, e1, hr1, hl1, hm1⟩ := HO1.out.vals; subst e1; refine (Calls.mono (put_any A1 c1 ([] ++ putL k) B.length _ Q1.out hr1 Q4.out) ?_); rintro e w2 ⟨v2, rfl, ho2, hg2⟩; have HB2 := hide (below_step HB1.out hg2); have HO2 := hide (OwnL.base_ ho2 HB1.out.size); clear tk2 _t hg2 ho2)
    | (refine step_append_vals rfl (.tmp 15) (.tmp 19) 27 5 _ 1 rfl Try.underlying27 Try.infoU8 rfl (fun _ => rfl) (by decide) w.heap.size _ (([] ++ putL k) ++ putL B.length) rfl HO2.out (some ⟨g, 0, none⟩) gc B rfl ((HF.out.below HB2.out).row) Q2.out HB2.out.size ?_; intro v3 w3 ho3 hg3; have HB3 := hide (HB2.out.grown hg3 HB2.out.size (fun k hk => (OwnL.lt HO2.out k hk).1)); have HO3 := hide ho3; clear ho3 hg3))
  all_goals
    go_wp2_with fail
    refine bodyPost_ret (v := v3) (by simp [results, Try.results13]) rfl ⟨v3, rfl, ?_, HB3.out⟩
    rw [← Q5.out]
    exact HO3.out

set_option maxHeartbeats 1000000 in
theorem rbytes_v {p g gc k : Nat} {B : List Int} (w : World) (hF : Fv w p g gc k B) :
    Calls Try.prog 15 #[.pointer (some ⟨p, 0, none⟩)] w fun e w' => e = .returned (.string (strOfNums (bytesL k B))) ∧ Below w.heap.size w w' := by
  have f0 := hF.c0; have f1 := hF.c1
  have hlp := hF.hp
  obtain ⟨hln1, hln2⟩ := hF.len
  obtain ⟨hk1, hk2⟩ := hF.k1
  have HR := hide hF.row
  have hbne : B ≠ [] := fun e => by rw [e] at hln1; simp at hln1
  have HBN := hide hbne
  have q3 : (0 : Int) ≤ (k : Int) ∧ (k : Int) < 18446744073709551616 := by omega
  have q4 : (0 : Int) ≤ (B.length : Int) ∧ (B.length : Int) < 18446744073709551616 := by omega
  have Q3 := hide q3
  have Q4 := hide q4
  have hwk : IntKind.u64.wrap (k : Int) = k := by rw [IntKind.wrap_u64]; omega
  have hwn : IntKind.u64.wrap (B.length : Int) = B.length := by rw [IntKind.wrap_u64]; omega
  obtain ⟨S1, hS1⟩ : ∃ S, strOfNums (putL (k : Int)) = S := ⟨_, rfl⟩
  obtain ⟨S2, hS2⟩ : ∃ S, strOfNums (putL (B.length : Int)) = S := ⟨_, rfl⟩
  obtain ⟨S3, hS3⟩ : ∃ S, strOfNums B = S := ⟨_, rfl⟩
  have HE : Hid (strOfNums (bytesL k B) = S1 ++ S2 ++ S3) := hide (by unfold bytesL; rw [strOfNums_app, strOfNums_app, hS1, hS2, hS3])
  have s1 : S1.size ≤ 11 := by rw [← hS1, str_len]; exact putL_len _
  have s2 : S2.size ≤ 11 := by rw [← hS2, str_len]; exact putL_len _
  have s3 : S3.size ≤ 25000 := by rw [← hS3, str_len]; exact hln2
  have N1 : Hid (∀ W : World, Calls Try.prog 26 #[.int .u64 k] W fun e w' => e = .returned (.string S1) ∧ Below W.heap.size W w') := hide (fun W => by have := num_any k W Q3.out; rw [hS1] at this; exact this)
  have N2 : Hid (∀ W : World, Calls Try.prog 26 #[.int .u64 B.length] W fun e w' => e = .returned (.string S2) ∧ Below W.heap.size W w') := hide (fun W => by have := num_any B.length W Q4.out; rw [hS2] at this; exact this)
  have hcv : ∀ s : Near w, (convert 27 9 (.slice (some ⟨g, 0, none⟩) B.length gc)).run Try.prog s.at_ = .ok (.string S3) s.at_ := fun s => by rw [← hS3]; exact conv_vals (HR.out.below s.is) HBN.out
  clear hS1 hS2 hS3
  clear hF hbne q3 q4
  go_enter Try.func15, Try.ntmps15
  go_wp2_with fail
  have hnc := near_cells1 w
  refine wp_region_near (by kernel_rfl) (by kernel_rfl) ?_
  repeat (go_big_quiet_step ((first | (go_at_call 26; with_reducible exact near_of (N1.out _)) | (go_at_call 26; with_reducible exact near_of (N2.out _)))))
  refine wpQuiet_nil ?_
  intro _ hw'
  obtain ⟨sn, rfl⟩ := hw'
  go_wp2_with fail
  go_ret
  exact ⟨by rw [HE.out]; rfl, sn.is⟩

set_option maxHeartbeats 1000000 in
theorem place_v {p g gc k : Nat} {B : List Int} (L : List Int) (i : Int) (w : World) (hF : Fv w p g gc k B) (hl : L.length ≤ 9223372036854775807) (hB : ∀ b ∈ L, isB b) (hi : 0 ≤ i ∧ i < 4294967296) :
    Calls Try.prog 27 #[.pointer (some ⟨p, 0, none⟩), .string (strOfNums L), .int .i64 i] w fun e w' => e = .returned (.int .i64 (plc (hashL L) B.length i)) ∧ Below w.heap.size w w' := by
  have HH := hide (rhash_any L w hl hB)
  have hh := hashL_bd L
  have hm := plc_bd (hashL L) B.length i (by have := hF.len; omega)
  generalize hashL L = h at *
  have c0 := hF.c0; have c1 := hF.c1
  have hlp := hF.hp
  obtain ⟨hn1, hn2⟩ := hF.len
  obtain ⟨hi1, hi2⟩ := hi
  generalize hN : B.length = n at *
  generalize strOfNums L = S at *
  go_enter Try.func27, Try.ntmps27
  go_wp2_with fail
  refine (Calls.mono HH.out ?_); rintro e w1 ⟨rfl, hg1⟩
  have c1 := (hg1.cell (p := ⟨p, _, none⟩) hlp).trans c1
  have hw : wrap64 ((h + i * (h / 4294967296)) % 4294967296 % (8 * (n : Int))) = plc h n i := by
    rw [Int.mul_comm 8]
    show wrap64 (plc h n i) = plc h n i
    generalize plc h n i = q at *
    unfold wrap64
    omega
  have HW := hide hw
  clear hw hm
  go_wp2_with fail
  go_ret
  refine ⟨?_, hg1⟩
  rw [← HW.out]
  rfl


set_option maxHeartbeats 1000000 in
theorem rhas_v {p g gc k : Nat} {B : List Int} (L : List Int) (w : World) (hF : Fv w p g gc k B) (hl : L.length ≤ 9223372036854775807) (hB : ∀ b ∈ L, isB b) :
    Calls Try.prog 18 #[.pointer (some ⟨p, 0, none⟩), .string (strOfNums L)] w fun e w' => e = .returned (.bool (hasL B (placesL (hashL L) B.length k))) ∧ Below w.heap.size w w' := by
  have HF := hide hF
  have hk1 := hF.k1
  have hln := hF.len
  have HQ : Hid (∀ W i, Fv W p g gc k B → 0 ≤ i ∧ i < 4294967296 → Calls Try.prog 27 #[.pointer (some ⟨p, 0, none⟩), .string (strOfNums L), .int .i64 i] W fun e w' => e = .returned (.int .i64 (plc (hashL L) B.length i)) ∧ Below W.heap.size W w') :=
    hide (fun W i h1 h3 => place_v L i W h1 hl hB h3)
  have HPB : Hid (∀ i, 0 ≤ plc (hashL L) B.length i ∧ plc (hashL L) B.length i < B.length * 8) := hide (fun i => plc_bd _ _ i (by omega))
  clear hF hB
  generalize hashL L = h at *
  generalize strOfNums L = S at *
  obtain ⟨R, hR⟩ : ∃ R, hasL B (placesL h B.length k) = R := ⟨_, rfl⟩
  rw [hR]
  have HR := hide hR
  clear hR
  go_enter Try.func18, Try.ntmps18
  go_wp2_with fail
  go_loopw [5] (fun i wr => ∃ j : Nat, j ≤ k ∧ i = .int .i64 j ∧ (∀ i < j, clrP B (plc h B.length (i : Nat)) = false) ∧ Below w.heap.size w wr) (fun i _ => k - (intOf i).toNat)
  case atStart => exact ⟨0, by omega, rfl, by intro i hi; omega, Below.refl _ _⟩
  case round =>
    obtain ⟨j, hj, rfl, hh, hb⟩ := hrel
    have HB := hide hb
    have HH := hide hh
    have HF1 := hide (HF.out.below hb)
    have f0 := HF1.out.c0; have f1 := HF1.out.c1
    clear hb hh
    by_cases hlt : j < k
    · have hji : (j : Int) < (k : Int) := by omega
      have hq := HPB.out j
      go_wp2_with fail
      refine (Calls.mono (HQ.out wr j HF1.out (by omega)) ?_); rintro e w2 ⟨rfl, hg2⟩
      have HM := hide (fun hc => hasL_miss (B := B) (h := h) (n := B.length) hlt hc)
      have HS : Hid (clrP B (plc h B.length j) = false → ∀ i < j + 1, clrP B (plc h B.length (i : Nat)) = false) := hide (fun hc i hi => by
        rcases Nat.lt_succ_iff_lt_or_eq.1 hi with h1 | rfl
        · exact HH.out i h1
        · exact hc)
      generalize hqq : plc h B.length j = q at *
      obtain ⟨m, r, hm, hr, hmn, hr8, hd, hd2⟩ := idx_facts hq hln.2
      have HF2 := hide (HF1.out.below hg2)
      have HB2 := hide (below_step HB.out hg2)
      have hc : clrP B q = clrB (B[m]?.getD 0) r := by unfold clrP; rw [hm, hr]; simp
      have f0 := HF2.out.c0; have f1 := HF2.out.c1
      have f2 := HF2.out.cell hmn
      have hx := getD_isB HF2.out.byt m
      unfold isB at hx
      generalize B[m]?.getD 0 = x at *
      have hmn2 : (m : Int) < (B.length : Int) := by omega
      clear hqq hm hr hq hg2 HF1 HB
      cases hcb : clrB x r
      · rw [hcb] at hc
        have HC := hide hc
        unfold clrB at hcb
        clear hc
        go_wp2_with fail
        go_roundw
        case rel => exact ⟨j + 1, by omega, by go_num, HS.out HC.out, HB2.out⟩
        case measure => simp [intOf]; omega
      · rw [hcb] at hc
        have HC := hide hc
        unfold clrB at hcb
        clear hc
        go_wp2_with fail
        go_ret
        exact ⟨by rw [← HR.out, HM.out HC.out]; rfl, HB2.out⟩
    · obtain rfl : j = k := by omega
      go_wp2_with fail
      go_ret
      exact ⟨by rw [← HR.out, hasL_take HH.out]; rfl, HB.out⟩
end Go.Proofs.Ytdhpjeenbejajaa
