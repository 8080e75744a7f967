/- merge.Iter.open: a contract, whether its rows are opened or not. Conditions: the iterator as it lies. -/
import Derived.Test.YtfmckinlgaejeaaMIt
namespace Go.Proofs.Ytfmckinlgaejeaa
set_option linter.unusedVariables false
set_option linter.unusedSimpArgs false
open Go.ChangeShapes Go.WideShapes Go.ChangeAt Go.RowKit

theorem it_mid {w : World} {b : Nat} {u v0 : Value} {n : Int} {t : TypeId} (h : w.heap[b]? = some (.cells (itC u 0 v0 n) t (0, 0))) :
    (w.setCell ⟨b, 2, none⟩ (.int .i32 1)).heap[b]? = some (.cells #[u, .int .u32 0, .int .i32 1, .int .u32 0, v0, .int .i64 n] t (0, 0)) := by
  simp [World.setCell, Array.getElem?_modify, h, itC]
theorem it_end {W : World} {b : Nat} {u v v0 : Value} {n : Int} {t : TypeId} (h : W.heap[b]? = some (.cells #[u, .int .u32 0, .int .i32 1, .int .u32 0, v0, .int .i64 n] t (0, 0))) :
    (((W.setCell ⟨b, 4, none⟩ v).drew.setCell ⟨b, 1, none⟩ (.int .u32 1)).setCell ⟨b, 2, none⟩ (.int .i32 0)).heap[b]? = some (.cells (itC u 1 v n) t (0, 0)) := by
  simp [World.setCell, World.drew, Array.getElem?_modify, h, itC]
/-- An iterator that is opened. -/
structure ItO (w : World) (b : Nat) (M : List It) (n : Int) : Prop where
  at_ : ∃ A0 n0 c0 A c, w.heap[b]? = some (.cells (itC (.slice A0 n0 c0) 1 (.slice A M.length c) n) 61 (0, 0)) ∧ ItemsAt w A M ∧ M.length ≤ c ∧ c ≤ maxLen
/-- An iterator's list does not lie in a block. -/
def Avoid (w : World) (b g : Nat) : Prop := ∀ a n c, w.cell? ⟨b, 4, none⟩ = some (.slice (some a) (n + 1) c) → ¬ a.block = g
set_option maxRecDepth 100000 in
set_option maxHeartbeats 1600000 in
theorem it_slow (b : Nat) (pl : Nat) (hpb : ¬ b = pl) (A : Option Addr) (c : Nat) (R : List (Sv It)) (n : Int) (w : World) (hp : w.cell? ⟨pl, 0, none⟩ = some (.pointer (some ⟨b, 0, none⟩))) (hpl : pl < w.heap.size)
    (hbx : w.heap[b]? = some (.cells (itC (.slice A R.length c) 0 (.slice none 0 0) n) 61 (0, 0))) (hR : RowsX w b A R) (hn : R.length ≤ 1000000) (hs : lenR (lsR R) ≤ 100000000) :
    Calls Try.prog 47 #[.pointer (some ⟨b, 1, none⟩), .func (.func 42) #[] #[.pointer (some ⟨pl, 0, none⟩)]] w fun e w' => e = .returned (.tuple #[]) ∧ ItO w' b (mrgG (lenR (lsR R)) (lsR R) []) n ∧ Sets (fun c => c = b) w w' ∧ ∀ g, g < w.heap.size → Avoid w' b g := by
  obtain ⟨hbl, ⟨c0, c1, c2, c3, c4, c5⟩, hz⟩ := it_box hbx
  have hs1 : Sets (fun c => c = b) w (w.setCell ⟨b, 2, none⟩ (.int .i32 1)) := (Sets.refl (S := fun c => c = b) w).set (g := b) (fun _ => rfl) 2 _
  have hm := it_mid hbx
  have hz1 : ∀ o, (w.setCell ⟨b, 2, none⟩ (.int .i32 1)).frozen? ⟨b, o, none⟩ = false := fun o => by simp [World.frozen?, hm]
  have hbl1 : b < (w.setCell ⟨b, 2, none⟩ (.int .i32 1)).heap.size := (Array.getElem?_eq_some_iff.1 hm).1
  obtain ⟨q0, q1, q2, q3, q4, q5⟩ := six_cells hm
  have hl := run_call_load (P := Try.prog) Try.func54 (by kernel_rfl) (by kernel_rfl) (by kernel_rfl) .u32 (by kernel_rfl) (w := w.setCell ⟨b, 2, none⟩ (.int .i32 1)) (a := ⟨b, 1, none⟩) (x := 0) q1
  have HCL := hide (openc_any b pl hpb A c R (w.setCell ⟨b, 2, none⟩ (.int .i32 1)) (hs1.cell hpl (fun e => hpb e.symm) hp) (Nat.lt_of_lt_of_le hpl hs1.size) q0 q4 hz1 hbl1 (hR.sets hs1) hn hs)
  have hnot : ∀ (x : Bool) (w : World), (Op.unary .not (.bool x)).run Try.prog w = .ok (.bool (!x)) w := fun _ _ => rfl
  have hz2 := hz 2
  have HM := hide hm
  have HS1 := hide hs1
  generalize mrgG (lenR (lsR R)) (lsR R) [] = M at *
  clear hR hn hs hp hbx hm hs1 hz c0 c1 c3 c4 c5 q0 q2 q3 q4 q5 hpb hpl
  go_enter_defers Try.func47, Try.ntmps47
  go_wp2_with (go_at_call 55; refine (lock_free ⟨b, 2, none⟩ _ (by go_simp) (by go_simp)).mono ?_; rintro e w' ⟨rfl, rfl⟩)
  go_wp2_with (first | (go_at_call 42; refine (Calls.mono HCL.out ?_); rintro e w2 ⟨rfl, v, W, hv, hnw, hb, rfl⟩) | (go_at_call 46; go_in))
  unfold bodyPostD
  have hmW := (hb.block b hbl1).trans HM.out
  obtain ⟨r0, r1, r2, r3, r4, r5⟩ := six_cells hmW
  have hzW : ∀ o, W.frozen? ⟨b, o, none⟩ = false := fun o => by simp [World.frozen?, hmW]
  refine leaves_cons (f := 57) (args := #[.pointer (some ⟨b, 1, none⟩), .bool true]) (by simp) (by simp [go_sem]) ?_
  refine (store_deferred ⟨b, 1, none⟩ (.int .u32 0) .returning _ ?_ (by simp [hzW])).mono ?_
  · exact (World.cell?_setCell_other _ ⟨b, 4, none⟩ ⟨b, 1, none⟩ _ (by simp)).trans r1
  rintro e u' w'' ⟨rfl, rfl, rfl⟩
  refine leaves_cons (f := 56) (args := #[.pointer (some ⟨b, 2, none⟩)]) (by simp [settle]) (by simp [go_sem]) ?_
  refine (unlock_deferred ⟨b, 2, none⟩ _ _ ?_ (by simp [hzW])).mono ?_
  · refine (World.cell?_setCell_other _ ⟨b, 1, none⟩ ⟨b, 2, none⟩ _ (by simp)).trans ?_
    rw [World.cell?_drew]
    exact (World.cell?_setCell_other _ ⟨b, 4, none⟩ ⟨b, 2, none⟩ _ (by simp)).trans r2
  rintro e u' w'' ⟨rfl, rfl, rfl⟩
  obtain ⟨A1, c1, rfl, hi, hc1, hc2⟩ := hv
  have hst : Sets (fun c => c = b) W (((W.setCell ⟨b, 4, none⟩ (.slice A1 M.length c1)).drew.setCell ⟨b, 1, none⟩ (.int .u32 1)).setCell ⟨b, 2, none⟩ (.int .i32 0)) :=
    (((Sets.refl (S := fun c => c = b) W).set (g := b) (fun _ => rfl) 4 _).drew.set (g := b) (fun _ => rfl) 1 _).set (g := b) (fun _ => rfl) 2 _
  have hoff := items_off2 hmW hi
  have hfin : ItO (((W.setCell ⟨b, 4, none⟩ (.slice A1 M.length c1)).drew.setCell ⟨b, 1, none⟩ (.int .u32 1)).setCell ⟨b, 2, none⟩ (.int .i32 0)) b M n :=
    ⟨A, _, c, A1, c1, it_end hmW, hi.sets hst hoff, hc1, hc2⟩
  have hall : Sets (fun c => c = b) w (((W.setCell ⟨b, 4, none⟩ (.slice A1 M.length c1)).drew.setCell ⟨b, 1, none⟩ (.int .u32 1)).setCell ⟨b, 2, none⟩ (.int .i32 0)) := (HS1.out.trans (Sets.of (S := fun _ => False) hb) (fun _ _ h => h.elim)).trans hst (fun _ _ h => h)
  have hav : ∀ g, g < w.heap.size → Avoid (((W.setCell ⟨b, 4, none⟩ (.slice A1 M.length c1)).drew.setCell ⟨b, 1, none⟩ (.int .u32 1)).setCell ⟨b, 2, none⟩ (.int .i32 0)) b g := by
    intro g hg a n' c' hc e
    rw [(it_box (it_end hmW)).2.1.2.2.2.2.1] at hc
    have h1 := hnw a _ _ (Option.some.inj hc)
    simp at h1
    omega
  simp [Leaves, settle, results, Try.results47]
  exact ⟨hfin, hall, hav⟩
end Go.Proofs.Ytfmckinlgaejeaa
