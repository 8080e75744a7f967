/- clepsydralaw13.rows: a contract. Conditions: the lists readable, few enough. -/
import Derived.Test.YtfmckinlgaejeaaSs
import Derived.Test.YtfmckinlgaejeaaMrgP
import Derived.Test.YtfmckinlgaejeaaRows5
import Derived.Test.YtfmckinlgaejeaaApart
namespace Go.Proofs.Ytfmckinlgaejeaa
set_option linter.unusedVariables false
set_option linter.unusedSimpArgs false
open Go.ChangeShapes Go.WideShapes Go.ChangeAt Go.RowKit

/-- The row that is made of a list. -/
def rk (L : List It) : List It := mrgsL (((L.take 40).filter goodB).map fun x => [x])
def rowsL (Ls : List (List It)) : List (List It) := (Ls.take 8).map rk
theorem rising_1 (x : It) : Rising [x] := rising_cons.2 ⟨fun y hy => by simp at hy, Rising.nil_⟩
theorem rk_up (L : List It) : Rising (rk L) := (mrgsL_flat _ (fun l hl => by
  obtain ⟨x, _, rfl⟩ := List.mem_map.1 hl
  exact rising_1 x)).up
theorem mrgs_ls (R : List (Sv It)) : mrgs R = mrgsL (R.map (·.L)) := by unfold mrgs mrgsL; rw [List.foldl_map]
theorem rk_len (L : List It) : (rk L).length ≤ 40 := by
  have key : ∀ (Q O : List It), ((Q.map fun x => [x]).foldl (fun out l => mrg2 out l) O).length ≤ O.length + Q.length := by
    intro Q
    induction Q with
    | nil => intro O; simp
    | cons x Q ih =>
      intro O
      have h1 := ih (mrg2 O [x])
      have h2 := mrg2_len O [x]
      simp only [List.map_cons, List.foldl_cons, List.length_cons, List.length_nil] at *
      omega
  have h := key ((L.take 40).filter goodB) []
  have h2 : ((L.take 40).filter goodB).length ≤ (L.take 40).length := List.length_filter_le _ _
  have h3 : (L.take 40).length ≤ 40 := by rw [List.length_take]; omega
  unfold rk mrgsL
  simp only [List.length_nil] at h
  omega
theorem sum_ones : ∀ (Q : List (Sv It)) (F : List It), Q.map (·.L) = F.map (fun x => [x]) → sumLen Q = Q.length
  | [], _, _ => rfl
  | r :: Q, [], h => by simp at h
  | r :: Q, x :: F, h => by
    simp only [List.map_cons, List.cons.injEq] at h
    have ih := sum_ones Q F h.2
    unfold sumLen at *
    simp only [List.map_cons, List.sum_cons, List.length_cons]
    rw [ih, h.1]
    simp
    omega
/-- Rows that are read beside the slice that holds them. -/
def RdA (w : World) (v : Value) (R : List (Sv It)) : Prop := ∀ r ∈ R, ItemsAt w r.A r.L ∧ r.L.length ≤ r.c ∧ r.c ≤ maxLen ∧ ∀ a, r.A = some a → r.L ≠ [] → v.ownBlock ≠ some a.block
theorem old_blockA {w : World} {A : Option Addr} {L : List It} (h : ItemsAt w A L) : ∀ a, A = some a → L ≠ [] → a.block < w.heap.size := fun a ha hn => by
  obtain ⟨b, off, e, hlt, _⟩ := h hn
  rw [ha] at e
  obtain rfl := Option.some.inj e
  exact hlt
theorem RdA.below {w w' : World} {v : Value} {R : List (Sv It)} (h : RdA w v R) (hb : Below w.heap.size w w') : RdA w' v R := fun r hr => by
  obtain ⟨h1, h2, h3, h4⟩ := h r hr
  exact ⟨h1.below hb, h2, h3, h4⟩
theorem items_grown {w w' : World} {row : Option Nat} {A : Option Addr} {L : List It} (h : ItemsAt w A L) (hg : w.grownBy w' row) (hn : ∀ a, A = some a → L ≠ [] → row ≠ some a.block) : ItemsAt w' A L := fun hL => by
  obtain ⟨b, off, rfl, hlt, hc⟩ := h hL
  exact ⟨b, off, rfl, Nat.lt_of_lt_of_le hlt hg.size, fun i hi j u hu => (World.cell?_of_block (hg.block b hlt (fun e => hn _ rfl hL e.symm))).trans (hc i hi j u hu)⟩
theorem RdA.grown {w w' : World} {v v' : Value} {R : List (Sv It)} (h : RdA w v R) (hg : w.grownBy w' v.ownBlock) (hm : Moved w v v') : RdA w' v' R := fun r hr => by
  obtain ⟨h1, h2, h3, h4⟩ := h r hr
  refine ⟨items_grown h1 hg h4, h2, h3, fun a ha hL e => ?_⟩
  have hlt := old_blockA h1 a ha hL
  rcases hm with hm | ⟨g, hg', hm⟩
  · exact h4 a ha hL (hm ▸ e)
  · rw [hm] at e
    obtain rfl := Option.some.inj e
    omega
theorem one_atR {w : World} {b o : Nat} {L : List It} (h : ItemsAt w (some ⟨b, o, none⟩) L) {k : Nat} (hk : k < L.length) : ItemsAt w (some ⟨b, o + k * 5, none⟩) [L[k]] := fun _ => by
  obtain ⟨b', o', e, hlt, hc⟩ := h (List.ne_nil_of_length_pos (by omega))
  obtain ⟨rfl, rfl⟩ : b = b' ∧ o = o' := by injection e with h; injection h; exact ⟨by assumption, by assumption⟩
  refine ⟨b, o + k * 5, rfl, hlt, fun i hi j u hu => ?_⟩
  obtain rfl : i = 0 := by simpa using hi
  have := hc k hk j u hu
  simpa using this

set_option maxRecDepth 100000 in
set_option maxHeartbeats 6400000 in
theorem lrows_any (A : Option Addr) (c : Nat) (L0 : List (Sv It)) (w : World) (hR : RowAt svC 1 w A L0) (hgd : ∀ s ∈ L0, Sv.good It.cells 5 It.wf w s) (hl0 : L0.length ≤ 9223372036854775807) :
    Calls Try.prog 9 #[.slice A L0.length c] w fun e w' => ∃ v R, e = .returned v ∧ OwS w.heap.size w' v R ∧ R.map (·.L) = rowsL (L0.map (·.L)) ∧ RdA w' v R ∧ Below w.heap.size w w' := by
  have R0 := hide hR
  have W0 := hide hgd
  clear hR hgd
  go_enter Try.func9, Try.ntmps9
  go_wp2_with fail
  go_loopw [3, 4] (fun v i wr => ∃ (k : Nat) (R : List (Sv It)), i = .int .i64 k ∧ k ≤ L0.length ∧ k ≤ 8 ∧ R.length = k ∧ R.map (·.L) = ((L0.map (·.L)).take k).map rk ∧ OwS w.heap.size wr v R ∧ RdA wr v R ∧ Below w.heap.size w wr) (fun _ i _ => 8 - (intOf i).toNat)
  case atStart => exact ⟨0, [], rfl, by omega, by omega, rfl, rfl, OwnL.nil_ _ _ _ _ _, fun r hr => (by cases hr), Below.refl _ _⟩
  case round =>
    obtain ⟨k, R, rfl, hk0, hk8, hlR, hmp, hos, hrd, hb⟩ := hrel
    have HMP := hide hmp
    have HOS := hide hos
    have HRD := hide hrd
    have HB := hide hb
    clear hmp hos hrd hb
    by_cases hlt : k < L0.length ∧ k < 8
    · obtain ⟨h0, h1⟩ := hlt
      have h0I : (k : Int) < (L0.length : Int) := by omega
      have h1I : (k : Int) < 8 := by omega
      obtain ⟨b0, off, rfl, hbb, hcr⟩ := R0.out.at_ h0
      have hgood := W0.out L0[k] (List.getElem_mem h0)
      have hc0 : w.cell? ⟨b0, off + k, none⟩ = some (L0[k]).val := by simpa using hcr k h0 0 _ rfl
      have htk : ((L0.map (·.L)).take (k + 1)).map rk = ((L0.map (·.L)).take k).map rk ++ [rk (L0[k]).L] := by
        rw [List.take_succ_eq_append_getElem (by simpa using h0), List.map_append]
        simp
      generalize L0[k] = s at *
      obtain ⟨Ai, ci, Li⟩ := s
      obtain ⟨hlc, hcm, hrow, _⟩ := hgood
      simp only at hlc hcm hrow htk
      unfold maxLen at hcm
      have HTK := hide htk
      have hc1 : w.cell? ⟨b0, off + k, none⟩ = some (.slice Ai Li.length ci) := hc0
      have HC : Hid (∀ V : World, Below w.heap.size w V → V.cell? ⟨b0, off + k, none⟩ = some (.slice Ai Li.length ci)) := hide (fun V hV => (hV.cell (p := ⟨b0, _, none⟩) hbb).trans hc1)
      have HLI := hide hrow
      clear hcr hc0 hc1 hrow htk
      have hcw := HC.out _ HB.out
      obtain ⟨wo, rfl⟩ : ∃ wo, wo = wr := ⟨_, rfl⟩
      go_wp2_with fail
      go_loopw [5, 6] (fun v i wq => ∃ (m : Nat) (Q : List (Sv It)), i = .int .i64 m ∧ m ≤ Li.length ∧ m ≤ 40 ∧ Q.length ≤ m ∧ Q.map (·.L) = ((Li.take m).filter goodB).map (fun x => [x]) ∧ (∀ r ∈ Q, ItemsAt w r.A r.L) ∧ OwS wo.heap.size wq v Q ∧ Below wo.heap.size wo wq) (fun _ i _ => 40 - (intOf i).toNat)
      case atStart => exact ⟨0, [], rfl, by omega, by omega, by simp, rfl, fun r hr => (by cases hr), OwnL.nil_ _ _ _ _ _, Below.refl _ _⟩
      case round =>
        clear hcw
        obtain ⟨m, Q, rfl, hm0, hm40, hlQ, hmq, hrq, hoq, hbq⟩ := hrel
        obtain ⟨wq, rfl⟩ : ∃ wq, wq = wr := ⟨_, rfl⟩
        have HMQ := hide hmq
        have HRQ := hide hrq
        have HOQ := hide hoq
        have HBQ := hide hbq
        have HLQ := hide (below_step HB.out hbq)
        have hcw := HC.out _ HLQ.out
        clear hmq hrq hoq hbq
        by_cases hml : m < Li.length ∧ m < 40
        · obtain ⟨hml0, hml1⟩ := hml
          have hm0I : (m : Int) < (Li.length : Int) := by omega
          have hm1I : (m : Int) < 40 := by omega
          obtain ⟨bi, oi, hAi, hbi, y0, y1, y2, y3, y4⟩ := ItemsAt.item HLI.out HLQ.out hml0
          subst hAi
          have HIT := hide (one_atR HLI.out hml0)
          have hft : (Li.take (m + 1)).filter goodB = (Li.take m).filter goodB ++ if goodB Li[m] then [Li[m]] else [] := by
            rw [List.take_succ_eq_append_getElem hml0, List.filter_append]
            simp only [List.filter_cons, List.filter_nil]
          have hbiw : bi < wq.heap.size := Nat.lt_of_lt_of_le hbi HLQ.out.size
          have hciI : (m : Int) + 1 ≤ (ci : Int) := by omega
          have hcim : ci ≠ m := by omega
          have HOKY := hide (fun V => rgood_any Li[m] V)
          generalize Li[m] = y at *
          cases hg : goodB y with
          | false =>
            have HFT : Hid ((Li.take (m + 1)).filter goodB = (Li.take m).filter goodB) := hide (by rw [hft, hg]; simp)
            rw [hg] at HOKY
            clear hft hg
            go_wp2_with fail
            refine (Calls.mono (HOKY.out _) ?_); rintro e w5 ⟨rfl, hb⟩
            have HB5 := hide (below_step HBQ.out hb)
            have HO5 := hide (OwnL.below HOQ.out hb)
            clear hb HOKY
            go_wp2_with fail
            go_roundw
            case rel => exact ⟨m + 1, Q, by go_num, by omega, by omega, by omega, by rw [HFT.out]; exact HMQ.out, HRQ.out, HO5.out, HB5.out⟩
            case measure => (simp [intOf] <;> omega)
          | true =>
            have HFT : Hid ((Li.take (m + 1)).filter goodB = (Li.take m).filter goodB ++ [y]) := hide (by rw [hft, hg]; rfl)
            rw [hg] at HOKY
            clear hft hg
            go_wp2_with fail
            refine (Calls.mono (HOKY.out _) ?_); rintro e w5 ⟨rfl, hb⟩
            have HB5 := hide (below_step HBQ.out hb)
            have HO5 := hide (OwnL.below HOQ.out hb)
            clear hcw
            have hcw := HC.out _ (below_step HLQ.out hb)
            clear hb HOKY y0 y1 y2 y3 y4
            go_wp2_with (at_builtin; refine wpList_append_s1 rfl (.tmp 38) (.tmp 47) rfl wo.heap.size wo.heap.size wo w5 _ _ Q ⟨some ⟨bi, oi + m * 5, none⟩, ci - m, [y]⟩ rfl rfl rfl HO5.out HB5.out (Nat.le_refl _) HB5.out.size (by omega) ?_; intro v6 w6 ho6 hb6 _; have HO6 := hide ho6; have HB6 := hide hb6; clear ho6 hb6)
            go_roundw
            case rel =>
              refine ⟨m + 1, Q ++ [⟨some ⟨bi, oi + m * 5, none⟩, ci - m, [y]⟩], by go_num, by omega, by omega, by rw [List.length_append, List.length_singleton]; omega, ?_, fun r hr => ?_, HO6.out, HB6.out⟩
              · rw [HFT.out, List.map_append, List.map_append, HMQ.out]
                rfl
              · rcases List.mem_append.1 hr with h | h
                · exact HRQ.out r h
                · obtain rfl := List.mem_singleton.1 h
                  exact HIT.out
            case measure => (simp [intOf] <;> omega)
        · by_cases hml2 : m < Li.length
          · obtain rfl : m = 40 := by omega
            have hm0I : ((40 : Nat) : Int) < (Li.length : Int) := by omega
            have hm0J : (40 : Int) < (Li.length : Int) := by omega
            have HTKE : Hid (Li.take 40 = Li.take 40) := hide rfl
            rw [HTKE.out] at HMQ
            obtain ⟨A5, c5, rfl, hr5, _⟩ := OwnL.row (cells := svC) (fun _ => rfl) HOQ.out
            have hrr := rrows_any A5 c5 Q wq ⟨hr5, fun r hr => (HRQ.out r hr).below HLQ.out⟩ (by omega) (by rw [sum_ones Q _ HMQ.out]; omega)
            rw [mrgs_ls, HMQ.out] at hrr
            have HRR := hide hrr
            clear hrr hr5
            go_wp2_with fail
            refine (Calls.mono HRR.out ?_); rintro e w7 ⟨⟨v7, rfl, ho7⟩, hb7⟩
            obtain ⟨A7, c7, rfl, hr7, hlow7, hc7, hcm7⟩ := OwnL.row It.cells_len ho7
            have hlk := rk_len Li
            have hrdn : RdA w7 u3 (R ++ [⟨A7, c7, rk Li⟩]) := by
              intro r hr
              rcases List.mem_append.1 hr with h | h
              · obtain ⟨h1, h2, h3, h4⟩ := HRD.out r h
                exact ⟨(h1.below HBQ.out).below hb7, h2, h3, h4⟩
              · obtain rfl := List.mem_singleton.1 h
                refine ⟨hr7, hc7, hcm7, fun a ha _ e => ?_⟩
                obtain ⟨ab, ao, asx⟩ := a
                have h1 := (hlow7 ab ao asx ha).1
                have h2 := (OwnL.lt HOS.out _ e).2
                have h3 := HBQ.out.size
                simp only at h2
                omega
            have HRDN := hide hrdn
            have HB7 := hide (below_step HLQ.out hb7)
            have HO7 := hide (OwnL.below (OwnL.below HOS.out HBQ.out) hb7)
            have HRL : Hid (mrgsL (((Li.take 40).filter goodB).map fun x => [x]) = rk Li) := hide rfl
            rw [HRL.out]
            clear ho7 hb7 hr7 hlow7 hrdn HRR
            go_wp2_with (at_builtin; refine wpList_append_el rfl (.tmp 49) (.tmp 52) 23 22 _ 1 24 rfl Try.underlying23 Try.infoItems rfl (by decide) (fun _ => rfl) svC_one (by decide) w.heap.size w.heap.size w w7 _ _ R ⟨A7, c7, rk Li⟩ rfl _ rfl rfl rfl HO7.out HB7.out (Nat.le_refl _) HB7.out.size (by omega) ?_; intro v8 w8 ho8 hb8 hg8 hmv8; have HO8 := hide ho8; have HB8 := hide hb8; have HRD8 := hide (RdA.grown HRDN.out hg8 hmv8); clear ho8 hb8 hg8 hmv8)
            go_roundw
            case rel => exact ⟨k + 1, R ++ [⟨A7, c7, rk Li⟩], by go_num, by omega, by omega, by rw [List.length_append, List.length_singleton, hlR], by rw [HTK.out, List.map_append, HMP.out]; rfl, HO8.out, HRD8.out, HB8.out⟩
            case measure => (simp [intOf] <;> omega)
          · obtain rfl : m = Li.length := by omega
            have hm0I : ¬ (Li.length : Int) < (Li.length : Int) := by omega
            have HTKE : Hid (Li.take Li.length = Li.take 40) := hide (by rw [List.take_length, List.take_of_length_le (by omega)])
            rw [HTKE.out] at HMQ
            obtain ⟨A5, c5, rfl, hr5, _⟩ := OwnL.row (cells := svC) (fun _ => rfl) HOQ.out
            have hrr := rrows_any A5 c5 Q wq ⟨hr5, fun r hr => (HRQ.out r hr).below HLQ.out⟩ (by omega) (by rw [sum_ones Q _ HMQ.out]; omega)
            rw [mrgs_ls, HMQ.out] at hrr
            have HRR := hide hrr
            clear hrr hr5
            go_wp2_with fail
            refine (Calls.mono HRR.out ?_); rintro e w7 ⟨⟨v7, rfl, ho7⟩, hb7⟩
            obtain ⟨A7, c7, rfl, hr7, hlow7, hc7, hcm7⟩ := OwnL.row It.cells_len ho7
            have hlk := rk_len Li
            have hrdn : RdA w7 u3 (R ++ [⟨A7, c7, rk Li⟩]) := by
              intro r hr
              rcases List.mem_append.1 hr with h | h
              · obtain ⟨h1, h2, h3, h4⟩ := HRD.out r h
                exact ⟨(h1.below HBQ.out).below hb7, h2, h3, h4⟩
              · obtain rfl := List.mem_singleton.1 h
                refine ⟨hr7, hc7, hcm7, fun a ha _ e => ?_⟩
                obtain ⟨ab, ao, asx⟩ := a
                have h1 := (hlow7 ab ao asx ha).1
                have h2 := (OwnL.lt HOS.out _ e).2
                have h3 := HBQ.out.size
                simp only at h2
                omega
            have HRDN := hide hrdn
            have HB7 := hide (below_step HLQ.out hb7)
            have HO7 := hide (OwnL.below (OwnL.below HOS.out HBQ.out) hb7)
            have HRL : Hid (mrgsL (((Li.take 40).filter goodB).map fun x => [x]) = rk Li) := hide rfl
            rw [HRL.out]
            clear ho7 hb7 hr7 hlow7 hrdn HRR
            go_wp2_with (at_builtin; refine wpList_append_el rfl (.tmp 49) (.tmp 52) 23 22 _ 1 24 rfl Try.underlying23 Try.infoItems rfl (by decide) (fun _ => rfl) svC_one (by decide) w.heap.size w.heap.size w w7 _ _ R ⟨A7, c7, rk Li⟩ rfl _ rfl rfl rfl HO7.out HB7.out (Nat.le_refl _) HB7.out.size (by omega) ?_; intro v8 w8 ho8 hb8 hg8 hmv8; have HO8 := hide ho8; have HB8 := hide hb8; have HRD8 := hide (RdA.grown HRDN.out hg8 hmv8); clear ho8 hb8 hg8 hmv8)
            go_roundw
            case rel => exact ⟨k + 1, R ++ [⟨A7, c7, rk Li⟩], by go_num, by omega, by omega, by rw [List.length_append, List.length_singleton, hlR], by rw [HTK.out, List.map_append, HMP.out]; rfl, HO8.out, HRD8.out, HB8.out⟩
            case measure => (simp [intOf] <;> omega)
    · by_cases h0 : k < L0.length
      · obtain rfl : k = 8 := by omega
        have h0I : ((8 : Nat) : Int) < (L0.length : Int) := by omega
        have h0J : (8 : Int) < (L0.length : Int) := by omega
        go_wp2_with fail
        go_ret
        exact ⟨u3, rfl, R, HOS.out, HMP.out, HRD.out, HB.out⟩
      · obtain rfl : k = L0.length := by omega
        have h0I : ¬ (L0.length : Int) < (L0.length : Int) := by omega
        go_wp2_with fail
        go_ret
        exact ⟨u3, rfl, R, HOS.out, by rw [HMP.out]; unfold rowsL; rw [List.take_of_length_le (by simp), List.take_of_length_le (by simp; omega)], HRD.out, HB.out⟩
end Go.Proofs.Ytfmckinlgaejeaa
