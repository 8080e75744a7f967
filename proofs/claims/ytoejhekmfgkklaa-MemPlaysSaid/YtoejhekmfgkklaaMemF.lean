/- (*mem.Mem).Freeze: a contract, whether it is frozen already or not. Conditions: typed at each. -/
import Derived.Test.YtoejhekmfgkklaaOnce
import Derived.Test.YtoejhekmfgkklaaSkB
import Derived.Test.YtoejhekmfgkklaaSkI
namespace Go.Proofs.Ytoejhekmfgkklaa
set_option linter.unusedVariables false
set_option linter.unusedSimpArgs false
open Go.ChangeShapes Go.WideShapes Go.ChangeAt Go.RowKit

/-- A memory's block: where its list lies, whether it is done, frozen, and how great. -/
def memC (p : Nat) (d : Int) (f : Bool) (n : Int) : Array Value := #[.pointer (some ⟨p, 0, none⟩), .int .u32 d, .int .i32 0, .int .u32 0, .bool f, .int .i64 n]
theorem mem_box {w : World} {b p : Nat} {d : Int} {f : Bool} {n : Int} {t : TypeId} (h : w.heap[b]? = some (.cells (memC p d f n) t (0, 0))) : b < w.heap.size ∧
    (w.cell? ⟨b, 0, none⟩ = some (.pointer (some ⟨p, 0, none⟩)) ∧ w.cell? ⟨b, 1, none⟩ = some (.int .u32 d) ∧ w.cell? ⟨b, 2, none⟩ = some (.int .i32 0) ∧ w.cell? ⟨b, 3, none⟩ = some (.int .u32 0) ∧ w.cell? ⟨b, 4, none⟩ = some (.bool f) ∧ w.cell? ⟨b, 5, none⟩ = some (.int .i64 n)) ∧
    ∀ o, w.frozen? ⟨b, o, none⟩ = false := by
  exact ⟨(Array.getElem?_eq_some_iff.1 h).1, six_cells h, fun o => by simp [World.frozen?, h]⟩
theorem mem_sets {w : World} {b p : Nat} {d : Int} {f : Bool} {n : Int} {t : TypeId} (h : w.heap[b]? = some (.cells (memC p d f n) t (0, 0))) :
    ((((w.setCell ⟨b, 2, none⟩ (.int .i32 1)).setCell ⟨b, 4, none⟩ (.bool true)).drew.setCell ⟨b, 1, none⟩ (.int .u32 1)).setCell ⟨b, 2, none⟩ (.int .i32 0)).heap[b]? = some (.cells (memC p 1 true n) t (0, 0)) := by
  simp [World.setCell, World.drew, Array.getElem?_modify, h, memC]

set_option maxRecDepth 100000 in
set_option maxHeartbeats 1600000 in
theorem freeze_slow (b : Nat) (pl : Addr) (hpb : ¬ b = pl.block) (f0 : Bool) (w : World) (hp : w.cell? pl = some (.pointer (some ⟨b, 0, none⟩)))
    (h0 : w.cell? ⟨b, 1, none⟩ = some (.int .u32 0)) (h1 : w.cell? ⟨b, 2, none⟩ = some (.int .i32 0)) (h3 : w.cell? ⟨b, 4, none⟩ = some (.bool f0)) (hz : ∀ o, w.frozen? ⟨b, o, none⟩ = false) :
    Calls Try.prog 50 #[.pointer (some ⟨b, 1, none⟩), .func (.func 33) #[] #[.pointer (some pl)]] w fun e w' => e = .returned (.tuple #[]) ∧
      w' = (((w.setCell ⟨b, 2, none⟩ (.int .i32 1)).setCell ⟨b, 4, none⟩ (.bool true)).drew.setCell ⟨b, 1, none⟩ (.int .u32 1)).setCell ⟨b, 2, none⟩ (.int .i32 0) := by
  have f0' := hz 1
  have f1' := hz 2
  have f3' := hz 4
  have hl := run_call_load (P := Try.prog) Try.func55 (by kernel_rfl) (by kernel_rfl) (by kernel_rfl) .u32 (by kernel_rfl) (w := w.setCell ⟨b, 2, none⟩ (.int .i32 1)) (a := ⟨b, 1, none⟩) (x := 0) ((World.cell?_setCell_other _ ⟨b, 2, none⟩ ⟨b, 1, none⟩ _ (by simp)).trans h0)
  have hp1 : (w.setCell ⟨b, 2, none⟩ (.int .i32 1)).cell? pl = some (.pointer (some ⟨b, 0, none⟩)) := (World.cell?_setCell_other _ ⟨b, 2, none⟩ pl _ (fun h => hpb (by rw [← h]))).trans hp
  have h31 : (w.setCell ⟨b, 2, none⟩ (.int .i32 1)).cell? ⟨b, 4, none⟩ = some (.bool f0) := (World.cell?_setCell_other _ ⟨b, 2, none⟩ ⟨b, 4, none⟩ _ (by simp)).trans h3
  have hnot : ∀ (x : Bool) (w : World), (Op.unary .not (.bool x)).run Try.prog w = .ok (.bool (!x)) w := fun _ _ => rfl
  go_enter_defers Try.func50, Try.ntmps50
  go_wp2_with (go_at_call 56; refine (lock_free ⟨b, 2, none⟩ _ (by go_simp) (by go_simp)).mono ?_; rintro e w' ⟨rfl, rfl⟩)
  go_wp2
  unfold bodyPostD
  refine leaves_cons (f := 58) (args := #[.pointer (some ⟨b, 1, none⟩), .bool true]) (by simp) (by simp [go_sem]) ?_
  refine (store_deferred ⟨b, 1, none⟩ (.int .u32 0) .returning _ ?_ (by simp [f0'])).mono ?_
  · exact (World.cell?_setCell_other _ ⟨b, 4, none⟩ ⟨b, 1, none⟩ _ (by simp)).trans ((World.cell?_setCell_other _ ⟨b, 2, none⟩ ⟨b, 1, none⟩ _ (by simp)).trans h0)
  rintro e u' w'' ⟨rfl, rfl, rfl⟩
  refine leaves_cons (f := 57) (args := #[.pointer (some ⟨b, 2, none⟩)]) (by simp [settle]) (by simp [go_sem]) ?_
  refine (unlock_deferred ⟨b, 2, none⟩ _ _ ?_ (by simp [f1'])).mono ?_
  · refine (World.cell?_setCell_other _ ⟨b, 1, none⟩ ⟨b, 2, none⟩ _ (by simp)).trans ?_
    rw [World.cell?_drew]
    exact (World.cell?_setCell_other _ ⟨b, 4, none⟩ ⟨b, 2, none⟩ _ (by simp)).trans (World.cell?_setCell_same w _ _ h1)
  rintro e u' w'' ⟨rfl, rfl, rfl⟩
  simp [Leaves, settle, results, Try.results50]

set_option maxRecDepth 100000 in
set_option maxHeartbeats 1600000 in
theorem freeze_first (b : Nat) (pl : Addr) (hpb : ¬ b = pl.block) (f0 : Bool) (w : World) (hp : w.cell? pl = some (.pointer (some ⟨b, 0, none⟩)))
    (h0 : w.cell? ⟨b, 1, none⟩ = some (.int .u32 0)) (h1 : w.cell? ⟨b, 2, none⟩ = some (.int .i32 0)) (h3 : w.cell? ⟨b, 4, none⟩ = some (.bool f0)) (hz : ∀ o, w.frozen? ⟨b, o, none⟩ = false) :
    Calls Try.prog 32 #[.pointer (some ⟨b, 1, none⟩), .func (.func 33) #[] #[.pointer (some pl)]] w fun e w' => e = .returned (.tuple #[]) ∧
      w' = (((w.setCell ⟨b, 2, none⟩ (.int .i32 1)).setCell ⟨b, 4, none⟩ (.bool true)).drew.setCell ⟨b, 1, none⟩ (.int .u32 1)).setCell ⟨b, 2, none⟩ (.int .i32 0) := by
  have hl := run_call_load (P := Try.prog) Try.func55 (by kernel_rfl) (by kernel_rfl) (by kernel_rfl) .u32 (by kernel_rfl) h0
  have hnot : ∀ (x : Bool) (w : World), (Op.unary .not (.bool x)).run Try.prog w = .ok (.bool (!x)) w := fun _ _ => rfl
  go_enter Try.func32, Try.ntmps32
  go_wp2_with (first | (go_at_call 50; refine (freeze_slow b pl hpb f0 _ hp h0 h1 h3 hz).mono ?_; rintro e w' ⟨rfl, rfl⟩) | (go_at_call 49; go_in))
  go_end0
  exact ⟨rfl, rfl⟩
theorem once_done (a : Addr) (d : Int) (hd : ¬ d = 0) (fv : Value) (w : World) (h0 : w.cell? a = some (.int .u32 d)) :
    Calls Try.prog 32 #[.pointer (some a), fv] w fun e w' => e = .returned (.tuple #[]) ∧ w' = w := by
  have hl := run_call_load (P := Try.prog) Try.func55 (by kernel_rfl) (by kernel_rfl) (by kernel_rfl) .u32 (by kernel_rfl) h0
  have hnot : ∀ (x : Bool) (w : World), (Op.unary .not (.bool x)).run Try.prog w = .ok (.bool (!x)) w := fun _ _ => rfl
  have hd' : (d != 0) = true := by simp [hd]
  go_enter Try.func32, Try.ntmps32
  go_wp2
  go_end0
  exact ⟨rfl, rfl⟩
end Go.Proofs.Ytoejhekmfgkklaa
