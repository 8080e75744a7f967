/- The document's merging of rows: the contract of clepsydraref5.Rows. Conditions: the rows' lengths add up to less than 2^40. -/
import Derived.Test.YtfmckinlgaejeaaSl
import Derived.Test.YtfmckinlgaejeaaNest
import Derived.Test.YtfmckinlgaejeaaItem
import Derived.Test.YtfmckinlgaejeaaMg
import Derived.Deep.DeepCutAuto
import Derived.Deep.CutBlock
import Derived.BigRegion
namespace Go.Proofs.Ytfmckinlgaejeaa
set_option linter.unusedVariables false
set_option linter.unusedSimpArgs false
open Go.ChangeShapes Go.WideShapes Go.ChangeAt Go.RowKit

/-- A row of rows: each as its slice, and as the list that it reads. -/
abbrev Rw := Sv It
def Rw.cells (r : Rw) : List Value := [r.val]
def RowsAt (w : World) (A : Option Addr) (R : List Rw) : Prop := RowAt Rw.cells 1 w A R ∧ ∀ r ∈ R, ItemsAt w r.A r.L
theorem RowsAt.below {w w' : World} {A : Option Addr} {R : List Rw} (h : RowsAt w A R) (hb : Below w.heap.size w w') : RowsAt w' A R := ⟨h.1.below hb, fun r hr => (h.2 r hr).below hb⟩
def sumLen (R : List Rw) : Nat := (R.map fun r => r.L.length).sum
def mrgs (R : List Rw) : List It := R.foldl (fun out r => mrg2 out r.L) []
theorem mrgs_snoc (R : List Rw) (r : Rw) : mrgs (R ++ [r]) = mrg2 (mrgs R) r.L := by simp [mrgs, List.foldl_append]
theorem mrg2_len : ∀ (l m : List It), (mrg2 l m).length ≤ l.length + m.length
  | [], m => by rw [mrg2_nil_left]; simp
  | a :: l, [] => by rw [mrg2_nil_right]; simp
  | a :: l, b :: m => by
    rw [mrg2]
    split
    · have := mrg2_len l m; simp only [List.length_cons]; omega
    · split
      · have := mrg2_len l (b :: m); simp only [List.length_cons] at *; omega
      · have := mrg2_len (a :: l) m; simp only [List.length_cons] at *; omega
  termination_by l m => l.length + m.length
theorem take_len_sum (R : List Rw) : ∀ k, (mrgs (R.take k)).length ≤ sumLen R := by
  have key : ∀ (R : List Rw) (out : List It), (R.foldl (fun out r => mrg2 out r.L) out).length ≤ out.length + sumLen R := by
    intro R
    induction R with
    | nil => intro out; simp [sumLen]
    | cons r R ih =>
      intro out
      have h1 := ih (mrg2 out r.L)
      have h2 := mrg2_len out r.L
      simp only [List.foldl_cons, sumLen, List.map_cons, List.sum_cons] at *
      omega
  intro k
  have h1 := key (R.take k) []
  have h2 : sumLen (R.take k) ≤ sumLen R := by
    unfold sumLen
    rw [List.map_take]
    conv => rhs; rw [← List.take_append_drop k (R.map fun r => r.L.length), List.sum_append]
    omega
  simp only [mrgs, List.length_nil] at *
  omega

theorem le_sum_mem : ∀ (l : List Nat) (x : Nat), x ∈ l → x ≤ l.sum
  | [], _, h => by simp at h
  | a :: l, x, h => by
    rw [List.sum_cons]
    rcases List.mem_cons.1 h with e | e
    · omega
    · have := le_sum_mem l x e; omega
theorem len_le_sum {R : List Rw} {k : Nat} (hk : k < R.length) : R[k].L.length ≤ sumLen R := by
  unfold sumLen
  have h : R[k].L.length ∈ R.map (fun r => r.L.length) := List.mem_map.2 ⟨R[k], List.getElem_mem hk, rfl⟩
  exact le_sum_mem _ _ h
theorem res5 {w : World} {g : Nat} {a0 a1 a2 a3 a4 : Value} {t : TypeId} (h : w.heap[g]? = some (.cells #[a0, a1, a2, a3, a4] t (0, 0))) : g < w.heap.size ∧
    w.cell? ⟨g, 0, none⟩ = some a0 ∧ w.cell? ⟨g, 1, none⟩ = some a1 ∧ w.cell? ⟨g, 2, none⟩ = some a2 ∧ w.cell? ⟨g, 3, none⟩ = some a3 ∧ w.cell? ⟨g, 4, none⟩ = some a4 ∧ ∀ o, w.frozen? ⟨g, o, none⟩ = false :=
  ⟨(Array.getElem?_eq_some_iff.1 h).1, (cell_of_row w g 0 _ _ _ h).trans rfl, (cell_of_row w g 1 _ _ _ h).trans rfl, (cell_of_row w g 2 _ _ _ h).trans rfl, (cell_of_row w g 3 _ _ _ h).trans rfl, (cell_of_row w g 4 _ _ _ h).trans rfl, fun o => by simp [World.frozen?, h]⟩
section
variable {Lo Lk N T : List It} {j q : Nat}
theorem mrg_same (hj : j < Lo.length) (hq : q < Lk.length) (hs : sameB Lo[j] Lk[q] = true) (h : N ++ mrg2 (Lo.drop j) (Lk.drop q) = T) : (N ++ [if winsB Lk[q] Lo[j] then Lk[q] else Lo[j]]) ++ mrg2 (Lo.drop (j + 1)) (Lk.drop (q + 1)) = T := by
  rw [← h, List.drop_eq_getElem_cons hj, List.drop_eq_getElem_cons hq, mrg2, if_pos hs]; simp
theorem mrg_less (hj : j < Lo.length) (hq : q < Lk.length) (hs : sameB Lo[j] Lk[q] = false) (hl : ltB Lo[j] Lk[q] = true) (h : N ++ mrg2 (Lo.drop j) (Lk.drop q) = T) : (N ++ [Lo[j]]) ++ mrg2 (Lo.drop (j + 1)) (Lk.drop q) = T := by
  rw [← h, List.drop_eq_getElem_cons hj, List.drop_eq_getElem_cons hq, mrg2, if_neg (by simp [hs]), if_pos hl]; simp
theorem mrg_more (hj : j < Lo.length) (hq : q < Lk.length) (hs : sameB Lo[j] Lk[q] = false) (hl : ltB Lo[j] Lk[q] = false) (h : N ++ mrg2 (Lo.drop j) (Lk.drop q) = T) : (N ++ [Lk[q]]) ++ mrg2 (Lo.drop j) (Lk.drop (q + 1)) = T := by
  rw [← h, List.drop_eq_getElem_cons hj, List.drop_eq_getElem_cons hq, mrg2, if_neg (by simp [hs]), if_neg (by simp [hl])]; simp
theorem mrg_left (hj : j < Lo.length) (hq : Lk.length ≤ q) (h : N ++ mrg2 (Lo.drop j) (Lk.drop q) = T) : (N ++ [Lo[j]]) ++ mrg2 (Lo.drop (j + 1)) (Lk.drop q) = T := by
  rw [← h, List.drop_eq_getElem_cons hj, List.drop_of_length_le hq, mrg2_nil_right, mrg2_nil_right]; simp
theorem mrg_right (hj : Lo.length ≤ j) (hq : q < Lk.length) (h : N ++ mrg2 (Lo.drop j) (Lk.drop q) = T) : (N ++ [Lk[q]]) ++ mrg2 (Lo.drop j) (Lk.drop (q + 1)) = T := by
  rw [← h, List.drop_of_length_le hj, List.drop_eq_getElem_cons hq, mrg2_nil_left, mrg2_nil_left]; simp
theorem mrg_end (hj : Lo.length ≤ j) (hq : Lk.length ≤ q) (h : N ++ mrg2 (Lo.drop j) (Lk.drop q) = T) : N = T := by
  rw [← h, List.drop_of_length_le hj, List.drop_of_length_le hq, mrg2_nil_left]; simp
end

set_option maxHeartbeats 6400000 in
set_option maxRecDepth 100000 in
theorem rrows_any (A : Option Addr) (c : Nat) (R : List Rw) (w : World) (hR : RowsAt w A R) (hn : R.length ≤ 1099511627776) (hs : sumLen R ≤ 1099511627776) :
    Calls Try.prog 16 #[.slice A R.length c] w fun e w' => (∃ v, e = .returned v ∧ OwnL It.cells 5 28 w.heap.size w' v (mrgs R)) ∧ Below w.heap.size w w' := by
  obtain ⟨i0, hi, hz0, hz1, hz2⟩ := info_parts Try.infoItem
  have HR := hide hR
  clear hR
  go_enter Try.func16, Try.ntmps16
  go_wp2
  go_loopw [3, 4] (fun v i wr => ∃ k : Nat, k ≤ R.length ∧ i = .int .i64 k ∧ OwnL It.cells 5 28 w.heap.size wr v (mrgs (R.take k)) ∧ Below w.heap.size w wr) (fun _ i _ => R.length - (intOf i).toNat)
  case atStart => exact ⟨0, by omega, rfl, OwnL.nil_ _ _ _ _ _, Below.refl _ _⟩
  case round =>
    obtain ⟨k, hk, rfl, hown, hb⟩ := hrel
    by_cases hlt : k < R.length
    · obtain ⟨b, off, rfl, hbb, hcr⟩ := HR.out.1.at_ hlt
      have hck : wr.cell? ⟨b, off + k, none⟩ = some (.slice R[k].A R[k].L.length R[k].c) := (hb.cell (p := ⟨b, _, none⟩) hbb).trans (by simpa using hcr k hlt 0 _ rfl)
      obtain ⟨Ao, co, rfl, hro, _, hlo, hco⟩ := hown.row It.cells_len
      have hrl := (HR.out.2 R[k] (List.getElem_mem _)).below hb
      have HRO := hide hro
      have HRL := hide hrl
      have HO := hide hown
      have HB := hide hb
      clear hcr hown hrl hro hb
      have bl1 := take_len_sum R k
      have bl2 := len_le_sum hlt
      generalize hLo : mrgs (R.take k) = Lo at *
      generalize hLk : R[k].L = Lk at *
      generalize R[k].A = Ak at *
      generalize R[k].c = ck at *
      obtain ⟨wo, rfl⟩ : ∃ wo : World, wo = wr := ⟨_, rfl⟩
      go_upto_block 2 with fail
      go_cut [5] (fun nx W => OwnL It.cells 5 28 wo.heap.size W nx (mrg2 Lo Lk) ∧ Below wo.heap.size wo W)
      case first =>
        go_wp2_with fail
        go_loopw [5, 7, 8] (fun nx j q wr => ∃ (jj qq : Nat) (N : List It), j = .int .i64 jj ∧ q = .int .i64 qq ∧ jj ≤ Lo.length ∧ qq ≤ Lk.length ∧ N ++ mrg2 (Lo.drop jj) (Lk.drop qq) = mrg2 Lo Lk ∧ N.length ≤ jj + qq ∧ OwnL It.cells 5 28 wo.heap.size wr nx N ∧ Below wo.heap.size wo wr) (fun _ j q _ => (Lo.length - (intOf j).toNat) + (Lk.length - (intOf q).toNat))
        case atStart => exact ⟨0, 0, [], rfl, rfl, by omega, by omega, by simp, by simp, OwnL.nil_ _ _ _ _ _, Below.refl _ _⟩
        case round =>
          obtain ⟨jj, qq, N, rfl, rfl, hj, hq, heq, hNl, hown', hbq⟩ := hrel
          have HE := hide heq
          clear heq
          by_cases c1 : jj < Lo.length
          · obtain ⟨b1, off1, rfl, hb1', x0, x1, x2, x3, x4⟩ := ItemsAt.item HRO.out hbq c1
            have hb1l : b1 < wr.heap.size := Nat.lt_of_lt_of_le hb1' hbq.size
            by_cases c2 : qq < Lk.length
            · obtain ⟨b2, off2, rfl, hb2, y0, y1, y2, y3, y4⟩ := ItemsAt.item HRL.out hbq c2
              have hb2' : b2 < wr.heap.size := Nat.lt_of_lt_of_le hb2 hbq.size
              have ne1 : ((qq : Int) == (Lk.length : Int)) = false := beq_eq_false_iff_ne.2 (by omega)
              cases hsm : sameB Lo[jj] Lk[qq]
              case false =>
                have hsc := fun W => rsame_any Lo[jj] Lk[qq] W
                rw [hsm] at hsc
                have HS := hide hsc
                clear hsc
                have hlc := fun W => rless_any Lo[jj] Lk[qq] W
                cases hl : ltB Lo[jj] Lk[qq]
                case false =>
                  rw [hl] at hlc
                  have HL := hide hlc
                  have HN := hide (mrg_more c1 c2 hsm hl HE.out)
                  clear hlc hl hsm
                  generalize Lo[jj] = x at *
                  generalize Lk[qq] = y at *
                  have rx0 := fun s : Near wr => s.cell x0 hb1l
                  have rx1 := fun s : Near wr => s.cell x1 hb1l
                  have rx2 := fun s : Near wr => s.cell x2 hb1l
                  have rx3 := fun s : Near wr => s.cell x3 hb1l
                  have rx4 := fun s : Near wr => s.cell x4 hb1l
                  have ry0 := fun s : Near wr => s.cell y0 hb2'
                  have ry1 := fun s : Near wr => s.cell y1 hb2'
                  have ry2 := fun s : Near wr => s.cell y2 hb2'
                  have ry3 := fun s : Near wr => s.cell y3 hb2'
                  have ry4 := fun s : Near wr => s.cell y4 hb2'
                  go_wp2_with fail
                  refine wp_region_near (by kernel_rfl) (by kernel_rfl) ?_
                  repeat (go_big_quiet_step (exact near_of (HS.out _)))
                  refine wpQuiet_nil ?_
                  intro _ hw'
                  obtain ⟨s1, rfl⟩ := hw'
                  clear rx0 ry0 rx1 ry1 rx2 ry2 rx3 ry3 rx4 ry4
                  have x0' := s1.cell x0 hb1l
                  have x1' := s1.cell x1 hb1l
                  have x2' := s1.cell x2 hb1l
                  have x3' := s1.cell x3 hb1l
                  have x4' := s1.cell x4 hb1l
                  have y0' := s1.cell y0 hb2'
                  have y1' := s1.cell y1 hb2'
                  have y2' := s1.cell y2 hb2'
                  have y3' := s1.cell y3 hb2'
                  have y4' := s1.cell y4 hb2'
                  have hb1s := Nat.lt_of_lt_of_le hb1l s1.is.size
                  have hb2s := Nat.lt_of_lt_of_le hb2' s1.is.size
                  have rx0 := fun s : Near s1.at_ => s.cell x0' hb1s
                  have rx1 := fun s : Near s1.at_ => s.cell x1' hb1s
                  have rx2 := fun s : Near s1.at_ => s.cell x2' hb1s
                  have rx3 := fun s : Near s1.at_ => s.cell x3' hb1s
                  have rx4 := fun s : Near s1.at_ => s.cell x4' hb1s
                  have ry0 := fun s : Near s1.at_ => s.cell y0' hb2s
                  have ry1 := fun s : Near s1.at_ => s.cell y1' hb2s
                  have ry2 := fun s : Near s1.at_ => s.cell y2' hb2s
                  have ry3 := fun s : Near s1.at_ => s.cell y3' hb2s
                  have ry4 := fun s : Near s1.at_ => s.cell y4' hb2s
                  go_wp2_with fail
                  refine wp_region_near (by kernel_rfl) (by kernel_rfl) ?_
                  repeat (go_big_quiet_step (exact near_of (HL.out _)))
                  refine wpQuiet_nil ?_
                  intro _ hw'
                  obtain ⟨s2, rfl⟩ := hw'
                  clear rx0 ry0 rx1 ry1 rx2 ry2 rx3 ry3 rx4 ry4
                  have y0'' := s2.cell y0' hb2s
                  have y1'' := s2.cell y1' hb2s
                  have y2'' := s2.cell y2' hb2s
                  have y3'' := s2.cell y3' hb2s
                  have y4'' := s2.cell y4' hb2s
                  have hbs : Below wo.heap.size wo s2.at_ := (hbq.trans (s1.is.mono hbq.size)).trans (s2.is.mono (Nat.le_trans hbq.size s1.is.size))
                  have hos := (hown'.below s1.is).below s2.is
                  have bN : N.length + 1 ≤ 2199023255553 := by omega
                  go_wp2_with (at_builtin; refine wpList_append_row _ rfl (.tmp 30) (.tmp 35) 22 rfl wo.heap.size 28 i0 _ 5 40 Try.underlying22 hi hz0 hz1 hz2 rfl (by omega) It.cells_len _ N rfl (hos.alloc _) (some ⟨_, 0, none⟩) 1 [y] rfl (RowAt.new_one (t := 28) (fr := (0, 0)) (heap_alloc_new s2.at_ _)) (by simp) (fun m _ => It.cells_one m) (by simp only [List.length_singleton, maxLen]; omega) (by simp only [List.length_singleton]; omega) (by have := hbs.size; simp; omega) ?_; intro v1 w1 hown1 hg1 _)
                  have hb1 : Below wo.heap.size wo w1 := below_row (below_alloc hbs _) (hos.alloc _) hg1 (by have := hbs.size; simp; omega)
                  go_roundw
                  case rel => exact ⟨jj, qq + 1, N ++ [y], rfl, by go_num, by omega, by omega, HN.out, by simp; omega, hown1, hb1⟩
                  case measure => simp [intOf]; omega
                case true =>
                  rw [hl] at hlc
                  have HL := hide hlc
                  have HN := hide (mrg_less c1 c2 hsm hl HE.out)
                  clear hlc hl hsm
                  generalize Lo[jj] = x at *
                  generalize Lk[qq] = y at *
                  have rx0 := fun s : Near wr => s.cell x0 hb1l
                  have rx1 := fun s : Near wr => s.cell x1 hb1l
                  have rx2 := fun s : Near wr => s.cell x2 hb1l
                  have rx3 := fun s : Near wr => s.cell x3 hb1l
                  have rx4 := fun s : Near wr => s.cell x4 hb1l
                  have ry0 := fun s : Near wr => s.cell y0 hb2'
                  have ry1 := fun s : Near wr => s.cell y1 hb2'
                  have ry2 := fun s : Near wr => s.cell y2 hb2'
                  have ry3 := fun s : Near wr => s.cell y3 hb2'
                  have ry4 := fun s : Near wr => s.cell y4 hb2'
                  go_wp2_with fail
                  refine wp_region_near (by kernel_rfl) (by kernel_rfl) ?_
                  repeat (go_big_quiet_step (exact near_of (HS.out _)))
                  refine wpQuiet_nil ?_
                  intro _ hw'
                  obtain ⟨s1, rfl⟩ := hw'
                  clear rx0 ry0 rx1 ry1 rx2 ry2 rx3 ry3 rx4 ry4
                  have x0' := s1.cell x0 hb1l
                  have x1' := s1.cell x1 hb1l
                  have x2' := s1.cell x2 hb1l
                  have x3' := s1.cell x3 hb1l
                  have x4' := s1.cell x4 hb1l
                  have y0' := s1.cell y0 hb2'
                  have y1' := s1.cell y1 hb2'
                  have y2' := s1.cell y2 hb2'
                  have y3' := s1.cell y3 hb2'
                  have y4' := s1.cell y4 hb2'
                  have hb1s := Nat.lt_of_lt_of_le hb1l s1.is.size
                  have hb2s := Nat.lt_of_lt_of_le hb2' s1.is.size
                  have rx0 := fun s : Near s1.at_ => s.cell x0' hb1s
                  have rx1 := fun s : Near s1.at_ => s.cell x1' hb1s
                  have rx2 := fun s : Near s1.at_ => s.cell x2' hb1s
                  have rx3 := fun s : Near s1.at_ => s.cell x3' hb1s
                  have rx4 := fun s : Near s1.at_ => s.cell x4' hb1s
                  have ry0 := fun s : Near s1.at_ => s.cell y0' hb2s
                  have ry1 := fun s : Near s1.at_ => s.cell y1' hb2s
                  have ry2 := fun s : Near s1.at_ => s.cell y2' hb2s
                  have ry3 := fun s : Near s1.at_ => s.cell y3' hb2s
                  have ry4 := fun s : Near s1.at_ => s.cell y4' hb2s
                  go_wp2_with fail
                  refine wp_region_near (by kernel_rfl) (by kernel_rfl) ?_
                  repeat (go_big_quiet_step (exact near_of (HL.out _)))
                  refine wpQuiet_nil ?_
                  intro _ hw'
                  obtain ⟨s2, rfl⟩ := hw'
                  clear rx0 ry0 rx1 ry1 rx2 ry2 rx3 ry3 rx4 ry4
                  have x0'' := s2.cell x0' hb1s
                  have x1'' := s2.cell x1' hb1s
                  have x2'' := s2.cell x2' hb1s
                  have x3'' := s2.cell x3' hb1s
                  have x4'' := s2.cell x4' hb1s
                  have hbs : Below wo.heap.size wo s2.at_ := (hbq.trans (s1.is.mono hbq.size)).trans (s2.is.mono (Nat.le_trans hbq.size s1.is.size))
                  have hos := (hown'.below s1.is).below s2.is
                  have bN : N.length + 1 ≤ 2199023255553 := by omega
                  go_wp2_with (at_builtin; refine wpList_append_row _ rfl (.tmp 105) (.tmp 110) 22 rfl wo.heap.size 28 i0 _ 5 40 Try.underlying22 hi hz0 hz1 hz2 rfl (by omega) It.cells_len _ N rfl (hos.alloc _) (some ⟨_, 0, none⟩) 1 [x] rfl (RowAt.new_one (t := 28) (fr := (0, 0)) (heap_alloc_new s2.at_ _)) (by simp) (fun m _ => It.cells_one m) (by simp only [List.length_singleton, maxLen]; omega) (by simp only [List.length_singleton]; omega) (by have := hbs.size; simp; omega) ?_; intro v1 w1 hown1 hg1 _)
                  have hb1 : Below wo.heap.size wo w1 := below_row (below_alloc hbs _) (hos.alloc _) hg1 (by have := hbs.size; simp; omega)
                  go_roundw
                  case rel => exact ⟨jj + 1, qq, N ++ [x], by go_num, rfl, by omega, by omega, HN.out, by simp; omega, hown1, hb1⟩
                  case measure => simp [intOf]; omega
              case true =>
                have hsc := fun W => rsame_any Lo[jj] Lk[qq] W
                rw [hsm] at hsc
                have HS := hide hsc
                clear hsc
                have hwc := fun W => rwins_any Lk[qq] Lo[jj] W
                have hn := mrg_same c1 c2 hsm HE.out
                cases hw : winsB Lk[qq] Lo[jj]
                case false =>
                  rw [hw] at hwc hn
                  simp only [Bool.false_eq_true, if_false] at hn
                  have HW := hide hwc
                  have HN := hide hn
                  clear hwc hw hsm hn
                  generalize Lo[jj] = x at *
                  generalize Lk[qq] = y at *
                  have rx0 := fun s : Near wr => s.cell x0 hb1l
                  have rx1 := fun s : Near wr => s.cell x1 hb1l
                  have rx2 := fun s : Near wr => s.cell x2 hb1l
                  have rx3 := fun s : Near wr => s.cell x3 hb1l
                  have rx4 := fun s : Near wr => s.cell x4 hb1l
                  have ry0 := fun s : Near wr => s.cell y0 hb2'
                  have ry1 := fun s : Near wr => s.cell y1 hb2'
                  have ry2 := fun s : Near wr => s.cell y2 hb2'
                  have ry3 := fun s : Near wr => s.cell y3 hb2'
                  have ry4 := fun s : Near wr => s.cell y4 hb2'
                  have HOW := hide hown'
                  have HBQ := hide hbq
                  clear hown' hbq
                  go_wp2_with fail
                  refine wp_region_near (by kernel_rfl) (by kernel_rfl) ?_
                  repeat (go_big_quiet_step (exact near_of (HS.out _)))
                  refine wpQuiet_nil ?_
                  intro _ hw'
                  obtain ⟨s1, rfl⟩ := hw'
                  clear rx0 ry0 rx1 ry1 rx2 ry2 rx3 ry3 rx4 ry4
                  replace x0 := s1.cell x0 hb1l
                  replace x1 := s1.cell x1 hb1l
                  replace x2 := s1.cell x2 hb1l
                  replace x3 := s1.cell x3 hb1l
                  replace x4 := s1.cell x4 hb1l
                  replace y0 := s1.cell y0 hb2'
                  replace y1 := s1.cell y1 hb2'
                  replace y2 := s1.cell y2 hb2'
                  replace y3 := s1.cell y3 hb2'
                  replace y4 := s1.cell y4 hb2'
                  replace hb1l := Nat.lt_of_lt_of_le hb1l s1.is.size
                  replace hb2' := Nat.lt_of_lt_of_le hb2' s1.is.size
                  have HB1 := hide (below_step HBQ.out s1.is)
                  have HO1 := hide (Ow.below HOW.out s1.is)
                  clear HBQ HOW HS
                  obtain ⟨v1, hv1⟩ : ∃ v1, s1.at_ = v1 := ⟨_, rfl⟩
                  rw [hv1] at HB1 HO1 hb1l hb2' x0 y0 x1 y1 x2 y2 x3 y3 x4 y4
                  rw [hv1]
                  clear hv1 s1
                  obtain ⟨v2, hv2⟩ : ∃ v2, v1.alloc (.cells #[.int .i64 x.s, .int .i64 x.k, .int .u64 x.t, .int .u64 x.v, .int .i64 x.x] 28) = v2 := ⟨_, rfl⟩
                  have hb12 : Below v1.heap.size v1 v2 := by rw [← hv2]; exact below_alloc (Below.refl _ _) _
                  have hgx : v2.heap[v1.heap.size]? = some (.cells #[.int .i64 x.s, .int .i64 x.k, .int .u64 x.t, .int .u64 x.v, .int .i64 x.x] 28 (0, 0)) := by rw [← hv2]; exact heap_alloc_new v1 _
                  have hbg : b2 ≠ v1.heap.size := by omega
                  have hbg' : v1.heap.size ≠ b2 := by omega
                  go_upto_region 13 with fail
                  try rw [hv2]
                  clear hv2
                  replace y0 := (hb12.cell (p := ⟨_, _, none⟩) hb2').trans y0
                  replace y1 := (hb12.cell (p := ⟨_, _, none⟩) hb2').trans y1
                  replace y2 := (hb12.cell (p := ⟨_, _, none⟩) hb2').trans y2
                  replace y3 := (hb12.cell (p := ⟨_, _, none⟩) hb2').trans y3
                  replace y4 := (hb12.cell (p := ⟨_, _, none⟩) hb2').trans y4
                  clear x0 x1 x2 x3 x4
                  replace hb2' := Nat.lt_of_lt_of_le hb2' hb12.size
                  have HGX := hide hgx
                  obtain ⟨lg, x0, x1, x2, x3, x4, _⟩ := res5 hgx
                  have HB2 := hide (below_step HB1.out hb12)
                  have HO2 := hide (Ow.below HO1.out hb12)
                  have HNE : Hid (u5.ownBlock ≠ some v1.heap.size) := hide (fun e => by have := (OwnL.lt HO1.out _ e).2; omega)
                  have hgw : wo.heap.size ≤ v1.heap.size := HB1.out.size
                  clear HB1 HO1 hgx hb12
                  generalize v1.heap.size = g at *
                  have rx0 := fun s : Near v2 => s.cell x0 lg
                  have rx1 := fun s : Near v2 => s.cell x1 lg
                  have rx2 := fun s : Near v2 => s.cell x2 lg
                  have rx3 := fun s : Near v2 => s.cell x3 lg
                  have rx4 := fun s : Near v2 => s.cell x4 lg
                  have ry0 := fun s : Near v2 => s.cell y0 hb2'
                  have ry1 := fun s : Near v2 => s.cell y1 hb2'
                  have ry2 := fun s : Near v2 => s.cell y2 hb2'
                  have ry3 := fun s : Near v2 => s.cell y3 hb2'
                  have ry4 := fun s : Near v2 => s.cell y4 hb2'
                  refine wp_region_near (by kernel_rfl) (by kernel_rfl) ?_
                  repeat (go_big_quiet_step (exact near_of (HW.out _)))
                  refine wpQuiet_nil ?_
                  intro _ hw'
                  obtain ⟨s2, rfl⟩ := hw'
                  clear rx0 ry0 rx1 ry1 rx2 ry2 rx3 ry3 rx4 ry4
                  clear HW
                  have hg3 := (s2.is.block g lg).trans HGX.out
                  have HB3 := hide (below_step HB2.out s2.is)
                  have HO3 := hide (Ow.below HO2.out s2.is)
                  replace hb2' := Nat.lt_of_lt_of_le hb2' s2.is.size
                  clear x0 x1 x2 x3 x4 lg HGX HB2 HO2 y0 y1 y2 y3 y4
                  obtain ⟨v3, hv3⟩ : ∃ v3, s2.at_ = v3 := ⟨_, rfl⟩
                  rw [hv3] at HB3 HO3 hb2' hg3
                  rw [hv3]
                  clear hv3 s2
                  have hbx := box_item (x := x) hg3
                  clear hg3 HNE
                  obtain ⟨x0, x1, x2, x3, x4⟩ := hbx
                  have bN : N.length ≤ 2199023255552 := by omega
                  go_wp2_with (at_builtin; refine wpList_append_item rfl (.tmp 75) (.tmp 77) rfl wo.heap.size wo.heap.size wo v3 _ _ N x rfl rfl rfl HO3.out HB3.out (Nat.le_refl _) HB3.out.size bN ?_; intro v5 w5 ho5 hb5 hg5; have HO5 := hide ho5; have HB5 := hide hb5; clear ho5 hb5 hg5 x0 x1 x2 x3 x4)
                  go_roundw
                  case rel => exact ⟨jj + 1, qq + 1, N ++ [x], by go_num, by go_num, by omega, by omega, HN.out, by simp; omega, HO5.out, HB5.out⟩
                  case measure => (simp [intOf] <;> omega)
                case true =>
                  rw [hw] at hwc hn
                  simp only [if_true] at hn
                  have HW := hide hwc
                  have HN := hide hn
                  clear hwc hw hsm hn
                  generalize Lo[jj] = x at *
                  generalize Lk[qq] = y at *
                  have rx0 := fun s : Near wr => s.cell x0 hb1l
                  have rx1 := fun s : Near wr => s.cell x1 hb1l
                  have rx2 := fun s : Near wr => s.cell x2 hb1l
                  have rx3 := fun s : Near wr => s.cell x3 hb1l
                  have rx4 := fun s : Near wr => s.cell x4 hb1l
                  have ry0 := fun s : Near wr => s.cell y0 hb2'
                  have ry1 := fun s : Near wr => s.cell y1 hb2'
                  have ry2 := fun s : Near wr => s.cell y2 hb2'
                  have ry3 := fun s : Near wr => s.cell y3 hb2'
                  have ry4 := fun s : Near wr => s.cell y4 hb2'
                  have HOW := hide hown'
                  have HBQ := hide hbq
                  clear hown' hbq
                  go_wp2_with fail
                  refine wp_region_near (by kernel_rfl) (by kernel_rfl) ?_
                  repeat (go_big_quiet_step (exact near_of (HS.out _)))
                  refine wpQuiet_nil ?_
                  intro _ hw'
                  obtain ⟨s1, rfl⟩ := hw'
                  clear rx0 ry0 rx1 ry1 rx2 ry2 rx3 ry3 rx4 ry4
                  replace x0 := s1.cell x0 hb1l
                  replace x1 := s1.cell x1 hb1l
                  replace x2 := s1.cell x2 hb1l
                  replace x3 := s1.cell x3 hb1l
                  replace x4 := s1.cell x4 hb1l
                  replace y0 := s1.cell y0 hb2'
                  replace y1 := s1.cell y1 hb2'
                  replace y2 := s1.cell y2 hb2'
                  replace y3 := s1.cell y3 hb2'
                  replace y4 := s1.cell y4 hb2'
                  replace hb1l := Nat.lt_of_lt_of_le hb1l s1.is.size
                  replace hb2' := Nat.lt_of_lt_of_le hb2' s1.is.size
                  have HB1 := hide (below_step HBQ.out s1.is)
                  have HO1 := hide (Ow.below HOW.out s1.is)
                  clear HBQ HOW HS
                  obtain ⟨v1, hv1⟩ : ∃ v1, s1.at_ = v1 := ⟨_, rfl⟩
                  rw [hv1] at HB1 HO1 hb1l hb2' x0 y0 x1 y1 x2 y2 x3 y3 x4 y4
                  rw [hv1]
                  clear hv1 s1
                  obtain ⟨v2, hv2⟩ : ∃ v2, v1.alloc (.cells #[.int .i64 x.s, .int .i64 x.k, .int .u64 x.t, .int .u64 x.v, .int .i64 x.x] 28) = v2 := ⟨_, rfl⟩
                  have hb12 : Below v1.heap.size v1 v2 := by rw [← hv2]; exact below_alloc (Below.refl _ _) _
                  have hgx : v2.heap[v1.heap.size]? = some (.cells #[.int .i64 x.s, .int .i64 x.k, .int .u64 x.t, .int .u64 x.v, .int .i64 x.x] 28 (0, 0)) := by rw [← hv2]; exact heap_alloc_new v1 _
                  have hbg : b2 ≠ v1.heap.size := by omega
                  have hbg' : v1.heap.size ≠ b2 := by omega
                  go_upto_region 13 with fail
                  try rw [hv2]
                  clear hv2
                  replace y0 := (hb12.cell (p := ⟨_, _, none⟩) hb2').trans y0
                  replace y1 := (hb12.cell (p := ⟨_, _, none⟩) hb2').trans y1
                  replace y2 := (hb12.cell (p := ⟨_, _, none⟩) hb2').trans y2
                  replace y3 := (hb12.cell (p := ⟨_, _, none⟩) hb2').trans y3
                  replace y4 := (hb12.cell (p := ⟨_, _, none⟩) hb2').trans y4
                  clear x0 x1 x2 x3 x4
                  replace hb2' := Nat.lt_of_lt_of_le hb2' hb12.size
                  have HGX := hide hgx
                  obtain ⟨lg, x0, x1, x2, x3, x4, _⟩ := res5 hgx
                  have HB2 := hide (below_step HB1.out hb12)
                  have HO2 := hide (Ow.below HO1.out hb12)
                  have HNE : Hid (u5.ownBlock ≠ some v1.heap.size) := hide (fun e => by have := (OwnL.lt HO1.out _ e).2; omega)
                  have hgw : wo.heap.size ≤ v1.heap.size := HB1.out.size
                  clear HB1 HO1 hgx hb12
                  generalize v1.heap.size = g at *
                  have rx0 := fun s : Near v2 => s.cell x0 lg
                  have rx1 := fun s : Near v2 => s.cell x1 lg
                  have rx2 := fun s : Near v2 => s.cell x2 lg
                  have rx3 := fun s : Near v2 => s.cell x3 lg
                  have rx4 := fun s : Near v2 => s.cell x4 lg
                  have ry0 := fun s : Near v2 => s.cell y0 hb2'
                  have ry1 := fun s : Near v2 => s.cell y1 hb2'
                  have ry2 := fun s : Near v2 => s.cell y2 hb2'
                  have ry3 := fun s : Near v2 => s.cell y3 hb2'
                  have ry4 := fun s : Near v2 => s.cell y4 hb2'
                  refine wp_region_near (by kernel_rfl) (by kernel_rfl) ?_
                  repeat (go_big_quiet_step (exact near_of (HW.out _)))
                  refine wpQuiet_nil ?_
                  intro _ hw'
                  obtain ⟨s2, rfl⟩ := hw'
                  clear rx0 ry0 rx1 ry1 rx2 ry2 rx3 ry3 rx4 ry4
                  clear HW
                  replace y0 := s2.cell y0 hb2'
                  replace y1 := s2.cell y1 hb2'
                  replace y2 := s2.cell y2 hb2'
                  replace y3 := s2.cell y3 hb2'
                  replace y4 := s2.cell y4 hb2'
                  have hg3 := (s2.is.block g lg).trans HGX.out
                  have HB3 := hide (below_step HB2.out s2.is)
                  have HO3 := hide (Ow.below HO2.out s2.is)
                  replace hb2' := Nat.lt_of_lt_of_le hb2' s2.is.size
                  clear x0 x1 x2 x3 x4 lg HGX HB2 HO2
                  obtain ⟨v3, hv3⟩ : ∃ v3, s2.at_ = v3 := ⟨_, rfl⟩
                  rw [hv3] at HB3 HO3 hb2' hg3 y0 y1 y2 y3 y4
                  rw [hv3]
                  clear hv3 s2
                  have HG3 := hide hg3
                  obtain ⟨lg, x0, x1, x2, x3, x4, fz⟩ := res5 hg3
                  clear hg3
                  go_upto_region 15 with fail
                  clear x0 x1 x2 x3 x4 fz y0 y1 y2 y3 y4
                  have hg4 := put_res y HG3.out
                  obtain ⟨v4, hv4⟩ : ∃ v4, (((((v3.setCell ⟨g, 0, none⟩ (.int .i64 y.s)).setCell ⟨g, 1, none⟩ (.int .i64 y.k)).setCell ⟨g, 2, none⟩ (.int .u64 y.t)).setCell ⟨g, 3, none⟩ (.int .u64 y.v)).setCell ⟨g, 4, none⟩ (.int .i64 y.x)) = v4 := ⟨_, rfl⟩
                  have HO4 : Hid (Ow wo.heap.size (((((v3.setCell ⟨g, 0, none⟩ (.int .i64 y.s)).setCell ⟨g, 1, none⟩ (.int .i64 y.k)).setCell ⟨g, 2, none⟩ (.int .u64 y.t)).setCell ⟨g, 3, none⟩ (.int .u64 y.v)).setCell ⟨g, 4, none⟩ (.int .i64 y.x)) u5 N) := hide (OwnL.setFar (OwnL.setFar (OwnL.setFar (OwnL.setFar (OwnL.setFar HO3.out HNE.out _) HNE.out _) HNE.out _) HNE.out _) HNE.out _)
                  have HB4 : Hid (Below wo.heap.size wo (((((v3.setCell ⟨g, 0, none⟩ (.int .i64 y.s)).setCell ⟨g, 1, none⟩ (.int .i64 y.k)).setCell ⟨g, 2, none⟩ (.int .u64 y.t)).setCell ⟨g, 3, none⟩ (.int .u64 y.v)).setCell ⟨g, 4, none⟩ (.int .i64 y.x))) := hide (((((HB3.out.setCell hgw _).setCell hgw _).setCell hgw _).setCell hgw _).setCell hgw _)
                  rw [hv4] at hg4 HO4 HB4
                  rw [hv4]
                  clear hv4 HG3 HO3 HB3 HNE
                  have hbx := box_item hg4
                  obtain ⟨x0, x1, x2, x3, x4⟩ := hbx
                  have bN : N.length ≤ 2199023255552 := by omega
                  go_wp2_with (at_builtin; refine wpList_append_item rfl (.tmp 75) (.tmp 77) rfl wo.heap.size wo.heap.size wo v4 _ _ N y rfl rfl rfl HO4.out HB4.out (Nat.le_refl _) HB4.out.size bN ?_; intro v5 w5 ho5 hb5 hg5; have HO5 := hide ho5; have HB5 := hide hb5; clear ho5 hb5 hg5 x0 x1 x2 x3 x4)
                  go_roundw
                  case rel => exact ⟨jj + 1, qq + 1, N ++ [y], by go_num, by go_num, by omega, by omega, HN.out, by simp; omega, HO5.out, HB5.out⟩
                  case measure => (simp [intOf] <;> omega)
            · obtain rfl : qq = Lk.length := by omega
              have HN := hide (mrg_left c1 (by omega) HE.out)
              generalize Lo[jj] = x at *
              go_wp2_with fail
              refine wp_region_near (by kernel_rfl) (by kernel_rfl) ?_
              repeat (go_big_quiet_step (fail))
              refine wpQuiet_nil ?_
              intro _ hw'
              obtain ⟨s1, rfl⟩ := hw'
              go_wp2_with fail
              refine wp_region_near (by kernel_rfl) (by kernel_rfl) ?_
              repeat (go_big_quiet_step (fail))
              refine wpQuiet_nil ?_
              intro _ hw'
              obtain ⟨s2, rfl⟩ := hw'
              have x0' := s2.cell (s1.cell x0 hb1l) (Nat.lt_of_lt_of_le hb1l s1.is.size)
              have x1' := s2.cell (s1.cell x1 hb1l) (Nat.lt_of_lt_of_le hb1l s1.is.size)
              have x2' := s2.cell (s1.cell x2 hb1l) (Nat.lt_of_lt_of_le hb1l s1.is.size)
              have x3' := s2.cell (s1.cell x3 hb1l) (Nat.lt_of_lt_of_le hb1l s1.is.size)
              have x4' := s2.cell (s1.cell x4 hb1l) (Nat.lt_of_lt_of_le hb1l s1.is.size)
              have hbs : Below wo.heap.size wo s2.at_ := (hbq.trans (s1.is.mono hbq.size)).trans (s2.is.mono (Nat.le_trans hbq.size s1.is.size))
              have hos := (hown'.below s1.is).below s2.is
              have bN : N.length + 1 ≤ 2199023255553 := by omega
              go_wp2_with (at_builtin; refine wpList_append_row _ rfl (.tmp 105) (.tmp 110) 22 rfl wo.heap.size 28 i0 _ 5 40 Try.underlying22 hi hz0 hz1 hz2 rfl (by omega) It.cells_len _ N rfl (hos.alloc _) (some ⟨_, 0, none⟩) 1 [x] rfl (RowAt.new_one (t := 28) (fr := (0, 0)) (heap_alloc_new s2.at_ _)) (by simp) (fun m _ => It.cells_one m) (by simp only [List.length_singleton, maxLen]; omega) (by simp only [List.length_singleton]; omega) (by have := hbs.size; simp; omega) ?_; intro v1 w1 hown1 hg1 _)
              have hb1 : Below wo.heap.size wo w1 := below_row (below_alloc hbs _) (hos.alloc _) hg1 (by have := hbs.size; simp; omega)
              go_roundw
              case rel => exact ⟨jj + 1, Lk.length, N ++ [x], by go_num, rfl, by omega, by omega, HN.out, by simp; omega, hown1, hb1⟩
              case measure => simp [intOf]; omega
          · by_cases c2 : qq < Lk.length
            · obtain ⟨b2, off2, rfl, hb2, y0, y1, y2, y3, y4⟩ := ItemsAt.item HRL.out hbq c2
              have hb2' : b2 < wr.heap.size := Nat.lt_of_lt_of_le hb2 hbq.size
              have ne1 : ((qq : Int) == (Lk.length : Int)) = false := beq_eq_false_iff_ne.2 (by omega)
              have HN := hide (mrg_right (by omega) c2 HE.out)
              generalize Lk[qq] = y at *
              go_wp2_with fail
              refine wp_region_near (by kernel_rfl) (by kernel_rfl) ?_
              repeat (go_big_quiet_step (fail))
              refine wpQuiet_nil ?_
              intro _ hw'
              obtain ⟨s1, rfl⟩ := hw'
              go_wp2_with fail
              refine wp_region_near (by kernel_rfl) (by kernel_rfl) ?_
              repeat (go_big_quiet_step (fail))
              refine wpQuiet_nil ?_
              intro _ hw'
              obtain ⟨s2, rfl⟩ := hw'
              have y0' := s2.cell (s1.cell y0 hb2') (Nat.lt_of_lt_of_le hb2' s1.is.size)
              have y1' := s2.cell (s1.cell y1 hb2') (Nat.lt_of_lt_of_le hb2' s1.is.size)
              have y2' := s2.cell (s1.cell y2 hb2') (Nat.lt_of_lt_of_le hb2' s1.is.size)
              have y3' := s2.cell (s1.cell y3 hb2') (Nat.lt_of_lt_of_le hb2' s1.is.size)
              have y4' := s2.cell (s1.cell y4 hb2') (Nat.lt_of_lt_of_le hb2' s1.is.size)
              have hbs : Below wo.heap.size wo s2.at_ := (hbq.trans (s1.is.mono hbq.size)).trans (s2.is.mono (Nat.le_trans hbq.size s1.is.size))
              have hos := (hown'.below s1.is).below s2.is
              have bN : N.length + 1 ≤ 2199023255553 := by omega
              go_wp2_with (at_builtin; refine wpList_append_row _ rfl (.tmp 30) (.tmp 35) 22 rfl wo.heap.size 28 i0 _ 5 40 Try.underlying22 hi hz0 hz1 hz2 rfl (by omega) It.cells_len _ N rfl (hos.alloc _) (some ⟨_, 0, none⟩) 1 [y] rfl (RowAt.new_one (t := 28) (fr := (0, 0)) (heap_alloc_new s2.at_ _)) (by simp) (fun m _ => It.cells_one m) (by simp only [List.length_singleton, maxLen]; omega) (by simp only [List.length_singleton]; omega) (by have := hbs.size; simp; omega) ?_; intro v1 w1 hown1 hg1 _)
              have hb1 : Below wo.heap.size wo w1 := below_row (below_alloc hbs _) (hos.alloc _) hg1 (by have := hbs.size; simp; omega)
              go_roundw
              case rel => exact ⟨jj, qq + 1, N ++ [y], rfl, by go_num, by omega, by omega, HN.out, by simp; omega, hown1, hb1⟩
              case measure => simp [intOf]; omega
            · have HN := hide (mrg_end (by omega) (by omega) HE.out)
              go_wp2_with fail
              go_meet
              rw [← HN.out]
              exact ⟨hown', hbq⟩
      case rest =>
        obtain ⟨hown2, hb2⟩ := hcut
        go_wp2
        go_roundw
        case rel => exact ⟨k + 1, by omega, by go_num, by rw [List.take_succ_eq_append_getElem hlt, mrgs_snoc, hLo, hLk]; exact hown2.base_ HB.out.size, HB.out.trans (hb2.mono HB.out.size)⟩
        case measure => simp [intOf]; omega
    · obtain rfl : k = R.length := by omega
      go_wp2
      go_ret
      exact ⟨⟨_, rfl, by rw [List.take_length] at hown; exact hown⟩, hb⟩
end Go.Proofs.Ytfmckinlgaejeaa
