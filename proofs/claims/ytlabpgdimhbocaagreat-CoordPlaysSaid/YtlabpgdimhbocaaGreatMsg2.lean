/- Messages: the document's May, MsgOk, SameMsg; msg.Copy: contracts. Conditions: the items readable. -/
import Derived.Test.YtlabpgdimhbocaaGreatMsg
import Derived.Test.YtlabpgdimhbocaaGreatApart
namespace Go.Proofs.YtlabpgdimhbocaaGreat
set_option linter.unusedVariables false
set_option linter.unusedSimpArgs false
open Go.ChangeShapes Go.WideShapes Go.ChangeAt Go.RowKit

def mayE (g : Bool) : Int := if g then 0 else 1
set_option maxRecDepth 100000 in
set_option maxHeartbeats 1600000 in
theorem may_any (A : Option Addr) (c : Nat) (L : List It) (w : World) (hl : L.length ≤ 2000) (hL : ItemsAt w A L) :
    Calls Tryz.prog 34 #[.slice A L.length c] w fun e w' => e = .returned (.int .i64 (mayE (L.all goodB))) ∧ Below w.heap.size w w' := by
  have hlI : ¬ (2000 : Int) < (L.length : Int) := by omega
  have HL := hide hL
  obtain ⟨E, hE⟩ : ∃ E, mayE (L.all goodB) = E := ⟨_, rfl⟩
  have HE := hide hE
  rw [hE]
  clear hL hE
  go_enter Tryz.func34, Tryz.ntmps34
  go_wp2_with fail
  go_loopw [3] (fun i wr => ∃ k : Nat, i = .int .i64 k ∧ k ≤ L.length ∧ (∀ j (hj : j < L.length), j < k → goodB L[j] = true) ∧ Below w.heap.size w wr) (fun i _ => L.length - (intOf i).toNat)
  case atStart => exact ⟨0, rfl, by omega, fun j _ h => by omega, Below.refl _ _⟩
  case round =>
    obtain ⟨k, rfl, hk, hall, hb⟩ := hrel
    have HALL := hide hall
    have HB := hide hb
    clear hall hb
    by_cases hlt : k < L.length
    · have hltI : (k : Int) < (L.length : Int) := by omega
      have hk0 : (0 : Int) ≤ (k : Int) := by omega
      obtain ⟨bl, off, rfl, hbb, y0, y1, y2, y3, y4⟩ := ItemsAt.item HL.out HB.out hlt
      have HG := hide (fun W => rgood_any L[k] W)
      have HN : Hid (goodB L[k] = true → ∀ j (hj : j < L.length), j < k + 1 → goodB L[j] = true) := hide (fun h j hj hjk => by
        by_cases e : j = k
        · subst e; exact h
        · exact HALL.out j hj (by omega))
      have HF : Hid (goodB L[k] = false → L.all goodB = false) := hide (fun h => by
        rw [List.all_eq_false]
        exact ⟨L[k], List.getElem_mem _, by rw [h]; simp⟩)
      generalize L[k] = y at *
      cases hg : goodB y with
      | true =>
        rw [hg] at HG HN
        go_wp2_with fail
        refine (Calls.mono (HG.out _) ?_); rintro e w1 ⟨rfl, hb⟩
        have HB1 := hide (below_step HB.out hb)
        clear hb hg
        go_wp2_with fail
        go_roundw
        case rel => exact ⟨k + 1, by go_num, by omega, HN.out trivial, HB1.out⟩
        case measure => (simp [intOf] <;> omega)
      | false =>
        have HV := hide (HF.out hg)
        rw [hg] at HG
        go_wp2_with fail
        refine (Calls.mono (HG.out _) ?_); rintro e w1 ⟨rfl, hb⟩
        have HB1 := hide (below_step HB.out hb)
        clear hb hg
        go_wp2_with fail
        go_ret
        exact ⟨by rw [← HE.out, HV.out]; rfl, HB1.out⟩
    · obtain rfl : k = L.length := by omega
      have hltI : ¬ (L.length : Int) < (L.length : Int) := by omega
      have HV : Hid (L.all goodB = true) := hide (by
        rw [List.all_eq_true]
        intro x hx
        obtain ⟨j, hj, rfl⟩ := List.mem_iff_getElem.1 hx
        exact HALL.out j hj hj)
      go_wp2_with fail
      go_ret
      exact ⟨by rw [← HE.out, HV.out]; rfl, HB.out⟩
theorem msg_row {w : World} {g : Nat} {m : Mg} {t : TypeId} {fr : Nat × Nat} (h : w.heap[g]? = some (.cells #[.int .i64 m.k, .int .i64 m.f, .int .i64 m.t, .int .u64 m.id, .int .u64 m.n, .slice m.A m.L.length m.c] t fr)) :
    w.cell? ⟨g, 0, none⟩ = some (.int .i64 m.k) ∧ w.cell? ⟨g, 1, none⟩ = some (.int .i64 m.f) ∧ w.cell? ⟨g, 2, none⟩ = some (.int .i64 m.t) ∧ w.cell? ⟨g, 3, none⟩ = some (.int .u64 m.id) ∧ w.cell? ⟨g, 4, none⟩ = some (.int .u64 m.n) ∧ w.cell? ⟨g, 5, none⟩ = some (.slice m.A m.L.length m.c) := six_cells h
set_option maxRecDepth 100000 in
set_option maxHeartbeats 6400000 in
theorem rmok_any (m : Mg) (w : World) (hI : ItemsAt w m.A m.L) :
    Calls Tryz.prog 24 #[m.val] w fun e w' => e = .returned (.bool (mokB m)) ∧ Below w.heap.size w w' := by
  obtain ⟨k, f, t, id, n, A, c, L⟩ := m
  simp only at hI
  have hb := below_alloc (Below.refl w.heap.size w) (.cells #[.int .i64 k, .int .i64 f, .int .i64 t, .int .u64 id, .int .u64 n, .slice A L.length c] 39)
  have HMAY0 := hide (fun h => may_any A c L _ h (hI.below hb))
  have HB := hide hb
  clear hI hb
  show Calls Tryz.prog 24 #[.agg #[.int .i64 k, .int .i64 f, .int .i64 t, .int .u64 id, .int .u64 n, .slice A L.length c]] w _
  obtain ⟨l, hll⟩ : ∃ l, L.length = l := ⟨_, rfl⟩
  have HLL := hide hll
  rw [hll] at HMAY0 HB ⊢
  clear hll
  by_cases h0 : k < 1
  · have e0 : ¬ 1 ≤ k := by omega
    have d0 : decide (k < 1) = true := decide_eq_true h0
    have HV : Hid (mokB ⟨k, f, t, id, n, A, c, L⟩ = false) := hide (by unfold mokB; simp [nodeB, HLL.out, e0])
    rw [HV.out]
    go_enter Tryz.func24, Tryz.ntmps24
    go_wp2_with fail
    go_ret
    exact ⟨rfl, HB.out⟩
  have e0 : 1 ≤ k := by omega
  by_cases h1 : 10 < k
  · have e1 : ¬ k ≤ 10 := by omega
    have d1 : decide (10 < k) = true := decide_eq_true h1
    have HV : Hid (mokB ⟨k, f, t, id, n, A, c, L⟩ = false) := hide (by unfold mokB; simp [nodeB, HLL.out, e0, e1])
    rw [HV.out]
    go_enter Tryz.func24, Tryz.ntmps24
    go_wp2_with fail
    go_ret
    exact ⟨rfl, HB.out⟩
  have e1 : k ≤ 10 := by omega
  by_cases h2 : f < 0
  · have e2 : ¬ 0 ≤ f := by omega
    have d2 : decide (f < 0) = true := decide_eq_true h2
    have HV : Hid (mokB ⟨k, f, t, id, n, A, c, L⟩ = false) := hide (by unfold mokB; simp [nodeB, HLL.out, e0, e1, e2])
    rw [HV.out]
    go_enter Tryz.func24, Tryz.ntmps24
    go_wp2_with fail
    go_ret
    exact ⟨rfl, HB.out⟩
  have e2 : 0 ≤ f := by omega
  by_cases h3 : 6 < f
  · have e3 : ¬ f < 7 := by omega
    have d3 : decide (6 < f) = true := decide_eq_true h3
    have HV : Hid (mokB ⟨k, f, t, id, n, A, c, L⟩ = false) := hide (by unfold mokB; simp [nodeB, HLL.out, e0, e1, e2, e3])
    rw [HV.out]
    go_enter Tryz.func24, Tryz.ntmps24
    go_wp2_with fail
    go_ret
    exact ⟨rfl, HB.out⟩
  have e3 : f < 7 := by omega
  by_cases h4 : t < 0
  · have e4 : ¬ 0 ≤ t := by omega
    have d4 : decide (t < 0) = true := decide_eq_true h4
    have HV : Hid (mokB ⟨k, f, t, id, n, A, c, L⟩ = false) := hide (by unfold mokB; simp [nodeB, HLL.out, e0, e1, e2, e3, e4])
    rw [HV.out]
    go_enter Tryz.func24, Tryz.ntmps24
    go_wp2_with fail
    go_ret
    exact ⟨rfl, HB.out⟩
  have e4 : 0 ≤ t := by omega
  by_cases h5 : 6 < t
  · have e5 : ¬ t < 7 := by omega
    have d5 : decide (6 < t) = true := decide_eq_true h5
    have HV : Hid (mokB ⟨k, f, t, id, n, A, c, L⟩ = false) := hide (by unfold mokB; simp [nodeB, HLL.out, e0, e1, e2, e3, e4, e5])
    rw [HV.out]
    go_enter Tryz.func24, Tryz.ntmps24
    go_wp2_with fail
    go_ret
    exact ⟨rfl, HB.out⟩
  have e5 : t < 7 := by omega
  by_cases h6 : 1099511627776 < id
  · have e6 : ¬ id ≤ 1099511627776 := by omega
    have d6 : decide (1099511627776 < id) = true := decide_eq_true h6
    have HV : Hid (mokB ⟨k, f, t, id, n, A, c, L⟩ = false) := hide (by unfold mokB; simp [nodeB, HLL.out, e0, e1, e2, e3, e4, e5, e6])
    rw [HV.out]
    go_enter Tryz.func24, Tryz.ntmps24
    go_wp2_with fail
    go_ret
    exact ⟨rfl, HB.out⟩
  have e6 : id ≤ 1099511627776 := by omega
  by_cases h7 : 281474976710656 < n
  · have e7 : ¬ n ≤ 281474976710656 := by omega
    have d7 : decide (281474976710656 < n) = true := decide_eq_true h7
    have HV : Hid (mokB ⟨k, f, t, id, n, A, c, L⟩ = false) := hide (by unfold mokB; simp [nodeB, HLL.out, e0, e1, e2, e3, e4, e5, e6, e7])
    rw [HV.out]
    go_enter Tryz.func24, Tryz.ntmps24
    go_wp2_with fail
    go_ret
    exact ⟨rfl, HB.out⟩
  have e7 : n ≤ 281474976710656 := by omega
  by_cases h8 : 1500 < l
  · have h8I : (1500 : Int) < (l : Int) := by omega
    have e8 : ¬ l ≤ 1500 := by omega
    have HV : Hid (mokB ⟨k, f, t, id, n, A, c, L⟩ = false) := hide (by unfold mokB; simp [nodeB, HLL.out, e0, e1, e2, e3, e4, e5, e6, e7, e8])
    rw [HV.out]
    go_enter Tryz.func24, Tryz.ntmps24
    go_wp2_with fail
    go_ret
    exact ⟨rfl, HB.out⟩
  have h8I : ¬ (1500 : Int) < (l : Int) := by omega
  have e8 : l ≤ 1500 := by omega
  have HMAY := hide (HMAY0.out (by omega))
  by_cases h9 : l = 0
  · subst h9
    cases h10 : L.all goodB with
    | true =>
      rw [h10, show mayE true = 0 from rfl] at HMAY
      have HV : Hid (mokB ⟨k, f, t, id, n, A, c, L⟩ = true) := hide (by unfold mokB; simp [nodeB, HLL.out, e0, e1, e2, e3, e4, e5, e6, e7, h10])
      rw [HV.out]
      go_enter Tryz.func24, Tryz.ntmps24
      go_wp2_with (go_at_call 34; refine (Calls.mono HMAY.out ?_); rintro e w2 ⟨rfl, hb2⟩; have HB2 := hide (below_step HB.out hb2); clear hb2)
      go_ret
      exact ⟨rfl, HB2.out⟩
    | false =>
      rw [h10, show mayE false = 1 from rfl] at HMAY
      have HV : Hid (mokB ⟨k, f, t, id, n, A, c, L⟩ = false) := hide (by unfold mokB; simp [nodeB, HLL.out, e0, e1, e2, e3, e4, e5, e6, e7, h10])
      rw [HV.out]
      go_enter Tryz.func24, Tryz.ntmps24
      go_wp2_with (go_at_call 34; refine (Calls.mono HMAY.out ?_); rintro e w2 ⟨rfl, hb2⟩; have HB2 := hide (below_step HB.out hb2); clear hb2)
      go_ret
      exact ⟨rfl, HB2.out⟩
  have h9I : (0 : Int) < (l : Int) := by omega
  have h9N : 0 < l := by omega
  by_cases h11 : k = 1 ∨ k = 5 ∨ k = 7 ∨ k = 8
  · rcases h11 with rfl | rfl | rfl | rfl
    · have HW : Hid (withB 1 = true) := hide rfl
      cases h10 : L.all goodB with
      | true =>
        rw [h10, show mayE true = 0 from rfl] at HMAY
        have HV : Hid (mokB ⟨1, f, t, id, n, A, c, L⟩ = true) := hide (by unfold mokB; simp [nodeB, HLL.out, e2, e3, e4, e5, e6, e7, e8, h9, h10, HW.out])
        rw [HV.out]
        go_enter Tryz.func24, Tryz.ntmps24
        go_wp2_with (go_at_call 34; refine (Calls.mono HMAY.out ?_); rintro e w2 ⟨rfl, hb2⟩; have HB2 := hide (below_step HB.out hb2); clear hb2)
        go_ret
        exact ⟨rfl, HB2.out⟩
      | false =>
        rw [h10, show mayE false = 1 from rfl] at HMAY
        have HV : Hid (mokB ⟨1, f, t, id, n, A, c, L⟩ = false) := hide (by unfold mokB; simp [nodeB, HLL.out, e2, e3, e4, e5, e6, e7, e8, h9, h10, HW.out])
        rw [HV.out]
        go_enter Tryz.func24, Tryz.ntmps24
        go_wp2_with (go_at_call 34; refine (Calls.mono HMAY.out ?_); rintro e w2 ⟨rfl, hb2⟩; have HB2 := hide (below_step HB.out hb2); clear hb2)
        go_ret
        exact ⟨rfl, HB2.out⟩
    · have HW : Hid (withB 5 = true) := hide rfl
      cases h10 : L.all goodB with
      | true =>
        rw [h10, show mayE true = 0 from rfl] at HMAY
        have HV : Hid (mokB ⟨5, f, t, id, n, A, c, L⟩ = true) := hide (by unfold mokB; simp [nodeB, HLL.out, e2, e3, e4, e5, e6, e7, e8, h9, h10, HW.out])
        rw [HV.out]
        go_enter Tryz.func24, Tryz.ntmps24
        go_wp2_with (go_at_call 34; refine (Calls.mono HMAY.out ?_); rintro e w2 ⟨rfl, hb2⟩; have HB2 := hide (below_step HB.out hb2); clear hb2)
        go_ret
        exact ⟨rfl, HB2.out⟩
      | false =>
        rw [h10, show mayE false = 1 from rfl] at HMAY
        have HV : Hid (mokB ⟨5, f, t, id, n, A, c, L⟩ = false) := hide (by unfold mokB; simp [nodeB, HLL.out, e2, e3, e4, e5, e6, e7, e8, h9, h10, HW.out])
        rw [HV.out]
        go_enter Tryz.func24, Tryz.ntmps24
        go_wp2_with (go_at_call 34; refine (Calls.mono HMAY.out ?_); rintro e w2 ⟨rfl, hb2⟩; have HB2 := hide (below_step HB.out hb2); clear hb2)
        go_ret
        exact ⟨rfl, HB2.out⟩
    · have HW : Hid (withB 7 = true) := hide rfl
      cases h10 : L.all goodB with
      | true =>
        rw [h10, show mayE true = 0 from rfl] at HMAY
        have HV : Hid (mokB ⟨7, f, t, id, n, A, c, L⟩ = true) := hide (by unfold mokB; simp [nodeB, HLL.out, e2, e3, e4, e5, e6, e7, e8, h9, h10, HW.out])
        rw [HV.out]
        go_enter Tryz.func24, Tryz.ntmps24
        go_wp2_with (go_at_call 34; refine (Calls.mono HMAY.out ?_); rintro e w2 ⟨rfl, hb2⟩; have HB2 := hide (below_step HB.out hb2); clear hb2)
        go_ret
        exact ⟨rfl, HB2.out⟩
      | false =>
        rw [h10, show mayE false = 1 from rfl] at HMAY
        have HV : Hid (mokB ⟨7, f, t, id, n, A, c, L⟩ = false) := hide (by unfold mokB; simp [nodeB, HLL.out, e2, e3, e4, e5, e6, e7, e8, h9, h10, HW.out])
        rw [HV.out]
        go_enter Tryz.func24, Tryz.ntmps24
        go_wp2_with (go_at_call 34; refine (Calls.mono HMAY.out ?_); rintro e w2 ⟨rfl, hb2⟩; have HB2 := hide (below_step HB.out hb2); clear hb2)
        go_ret
        exact ⟨rfl, HB2.out⟩
    · have HW : Hid (withB 8 = true) := hide rfl
      cases h10 : L.all goodB with
      | true =>
        rw [h10, show mayE true = 0 from rfl] at HMAY
        have HV : Hid (mokB ⟨8, f, t, id, n, A, c, L⟩ = true) := hide (by unfold mokB; simp [nodeB, HLL.out, e2, e3, e4, e5, e6, e7, e8, h9, h10, HW.out])
        rw [HV.out]
        go_enter Tryz.func24, Tryz.ntmps24
        go_wp2_with (go_at_call 34; refine (Calls.mono HMAY.out ?_); rintro e w2 ⟨rfl, hb2⟩; have HB2 := hide (below_step HB.out hb2); clear hb2)
        go_ret
        exact ⟨rfl, HB2.out⟩
      | false =>
        rw [h10, show mayE false = 1 from rfl] at HMAY
        have HV : Hid (mokB ⟨8, f, t, id, n, A, c, L⟩ = false) := hide (by unfold mokB; simp [nodeB, HLL.out, e2, e3, e4, e5, e6, e7, e8, h9, h10, HW.out])
        rw [HV.out]
        go_enter Tryz.func24, Tryz.ntmps24
        go_wp2_with (go_at_call 34; refine (Calls.mono HMAY.out ?_); rintro e w2 ⟨rfl, hb2⟩; have HB2 := hide (below_step HB.out hb2); clear hb2)
        go_ret
        exact ⟨rfl, HB2.out⟩
  · have hw : withB k = false := by unfold withB; simp; omega
    have b1 : (k != 1) = true := by rw [bne_iff_ne]; omega
    have b2 : (k != 5) = true := by rw [bne_iff_ne]; omega
    have b3 : (k != 7) = true := by rw [bne_iff_ne]; omega
    have b4 : (k != 8) = true := by rw [bne_iff_ne]; omega
    clear h11
    have HV : Hid (mokB ⟨k, f, t, id, n, A, c, L⟩ = false) := hide (by unfold mokB; simp [nodeB, HLL.out, e0, e1, e2, e3, e4, e5, e6, e7, e8, h9, hw])
    rw [HV.out]
    go_enter Tryz.func24, Tryz.ntmps24
    go_wp2_with fail
    go_ret
    exact ⟨rfl, HB.out⟩
end Go.Proofs.YtlabpgdimhbocaaGreat
