/- What is of a list, as the program has it: contracts of state.only, Series. Condition: a list of at most 2^40 items. -/
import Derived.Test.YtlabpgdimhbocaaGreatFil
import Derived.Test.YtlabpgdimhbocaaGreatPSt
namespace Go.Proofs.YtlabpgdimhbocaaGreat
set_option linter.unusedVariables false
set_option linter.unusedSimpArgs false
open Go.ChangeShapes Go.WideShapes Go.ChangeAt Go.RowKit

set_option maxHeartbeats 1600000 in
theorem only_any (F : FuncId) (caps : Array Value) (hcf : Enters Tryz.prog F) (p : It → Bool) (A : Option Addr) (c : Nat) (L : List It) (w : World) (hL : ItemsAt w A L) (hF : Tells F caps p L w) (hn : L.length ≤ 1099511627776) :
    Calls Tryz.prog 70 #[.slice A L.length c, .func (.func F) #[] caps] w (RetOf (L.filter p) w) := by
  have HL := hide hL
  have HT := hide hF
  have HCF := hide hcf
  clear hL hF hcf
  go_enter Tryz.func70, Tryz.ntmps70
  go_wp2_with fail
  go_loopw [5, 10] (fun sv i wr => ∃ k : Nat, i = .int .i64 k ∧ k ≤ L.length ∧ Ow w.heap.size wr sv ((L.take k).filter p) ∧ Below w.heap.size w wr) (fun _ i _ => L.length - (intOf i).toNat)
  case atStart => exact ⟨0, rfl, by omega, Ow.nil_ _ _, Below.refl _ _⟩
  case round =>
    obtain ⟨k, rfl, hk, hown, hb⟩ := hrel
    have HO := hide hown
    have HB := hide hb
    clear hown hb
    by_cases hlt : k < L.length
    · obtain ⟨bl, off, rfl, hbb, y0, y1, y2, y3, y4⟩ := ItemsAt.item HL.out HB.out hlt
      have hcall := HT.out L[k] (List.getElem_mem _) _ (below_alloc HB.out (.cells L[k].cells.toArray 78))
      have HF1 := hide (filt_in (p := p) hlt)
      have HF2 := hide (filt_out (p := p) hlt)
      have hNl : ((L.take k).filter p).length ≤ k := filt_len _ _ _
      generalize L[k] = y at *
      generalize (L.take k).filter p = N at *
      have HC := hide hcall
      clear hcall
      have hcf := HCF.out
      unfold Enters at hcf
      cases hp : p y
      · have HN := hide (HF2.out hp)
        go_wp2_with fail
        refine (Calls.mono HC.out ?_); rintro e w1 ⟨rfl, hg1⟩
        rw [hp]
        go_wp2_with fail
        go_roundw
        case rel => exact ⟨k + 1, by go_num, by omega, by rw [HN.out]; exact (OwnL.alloc HO.out _).below hg1, below_step (below_alloc HB.out _) hg1⟩
        case measure => simp [intOf]; omega
      · have HN := hide (HF1.out hp)
        go_wp2_with fail
        refine (Calls.mono HC.out ?_); rintro e w1 ⟨rfl, hg1⟩
        rw [hp]
        obtain ⟨x0, x1, x2, x3, x4⟩ := box_item (x := y) ((hg1.block wr.heap.size (by simp)).trans (heap_alloc_new wr _))
        have hb1 : Below w.heap.size w w1 := below_step (below_alloc HB.out _) hg1
        have HO1 : Hid (Ow w.heap.size w1 u5 N) := hide ((OwnL.alloc HO.out _).below hg1)
        have HB1 := hide hb1
        clear hb1 hg1
        go_wp2_with (at_builtin; refine wpList_append_item rfl (.tmp 17) (.tmp 19) rfl _ _ _ _ _ _ N y rfl rfl rfl HO1.out HB1.out (Nat.le_refl _) HB1.out.size (by omega) ?_; intro v1 u1 ho1 hbu1 hgu1)
        go_roundw
        case rel => exact ⟨k + 1, by go_num, by omega, by rw [HN.out]; exact ho1, hbu1⟩
        case measure => simp [intOf]; omega
    · obtain rfl : k = L.length := by omega
      have HF := hide (filt_all p L)
      go_wp2_with fail
      refine (Calls.mono (clip_og (HO.out.og)) ?_); rintro e w3 ⟨⟨v3, rfl, ho3⟩, rfl⟩
      go_wp2_with fail
      go_ret
      exact ⟨_, rfl, by rw [← HF.out]; exact ho3, HB.out⟩

theorem box_one {w : World} {g : Nat} {u : Value} {t : TypeId} (h : w.heap[g]? = some (.cells #[u] t (0, 0))) : w.cell? ⟨g, 0, none⟩ = some u := (cell_of_row w g 0 _ _ _ h).trans rfl
set_option maxHeartbeats 400000 in
theorem seriesc_any (y : It) (s : Int) (b : Nat) (w : World) (h : w.heap[b]? = some (.cells #[.int .i64 s] 3 (0, 0))) : Calls Tryz.prog 71 #[y.val, .pointer (some ⟨b, 0, none⟩)] w fun e w' => e = .returned (.bool (serP s y)) ∧ Below w.heap.size w w' := by
  have c0 := box_one h
  have hb : b < w.heap.size := (Array.getElem?_eq_some_iff.1 h).1
  clear h
  by_cases hs : y.s = s
  · have HP : Hid (serP s y = true) := hide (decide_eq_true hs)
    have bs : (y.s == s) = true := beq_iff_eq.2 hs
    clear hs
    go_enter Tryz.func71, Tryz.ntmps71
    go_wp2_with fail
    go_ret
    exact ⟨by rw [HP.out]; rfl, below_alloc (Below.refl _ _) _⟩
  · have HP : Hid (serP s y = false) := hide (decide_eq_false hs)
    have bs : (y.s == s) = false := beq_eq_false_iff_ne.2 hs
    go_enter Tryz.func71, Tryz.ntmps71
    go_wp2_with fail
    go_ret
    exact ⟨by rw [HP.out]; rfl, below_alloc (Below.refl _ _) _⟩
theorem pseries_any (A : Option Addr) (c : Nat) (L : List It) (s : Int) (w : World) (hL : ItemsAt w A L) (hn : L.length ≤ 1099511627776) : Calls Tryz.prog 54 #[.slice A L.length c, .int .i64 s] w (RetOf (L.filter (serP s)) w) := by
  have hcf : Enters Tryz.prog 71 := fun args W => by kernel_rfl
  have hb : Below w.heap.size w (w.alloc (.cells #[.int .i64 s] 3)) := below_alloc (Below.refl _ _) _
  have H := hide (only_any 71 #[.pointer (some ⟨w.heap.size, 0, none⟩)] hcf (serP s) A c L (w.alloc (.cells #[.int .i64 s] 3)) (RowAt.below hL hb) (fun y _ w1 h1 => seriesc_any y s w.heap.size w1 ((h1.block _ (by simp)).trans (heap_alloc_new w _))) hn)
  have HB := hide hb
  clear hL hcf hb
  go_enter Tryz.func54, Tryz.ntmps54
  go_wp2_with fail
  refine (Calls.mono H.out ?_); rintro e w1 ⟨v1, rfl, ho1, hg1⟩
  go_wp2_with fail
  go_ret
  exact ⟨_, rfl, ho1.base_ HB.out.size, below_step HB.out hg1⟩
end Go.Proofs.YtlabpgdimhbocaaGreat
