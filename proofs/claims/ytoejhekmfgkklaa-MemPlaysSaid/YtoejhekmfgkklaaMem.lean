/- (*mem.Mem): New, Freeze, Frozen, Len, Items, Bytes: contracts. Conditions: the memory as it lies. -/
import Derived.Test.YtoejhekmfgkklaaMemF
import Derived.Test.YtoejhekmfgkklaaSkA
namespace Go.Proofs.Ytoejhekmfgkklaa
set_option linter.unusedVariables false
set_option linter.unusedSimpArgs false
open Go.ChangeShapes Go.WideShapes Go.ChangeAt Go.RowKit

theorem lvm {F : List Nd} (h : SkOk F) : lvL F 0 = itsF F := by
  unfold lvL itsF
  congr 1
  rw [List.filter_eq_self]
  intro d hd
  have := (h.hts d (List.mem_of_mem_drop hd)).1
  simp
  omega
def dn (f : Bool) : Int := if f then 1 else 0
/-- A memory: its block, its list, whether it is frozen, how great it is. -/
structure MemAt (w : World) (b p : Nat) (F : List Nd) (f : Bool) (n : Int) : Prop where
  sk : SkAt w p F
  ok : SkOk F
  box : w.heap[b]? = some (.cells (memC p (dn f) f n) 65 (0, 0))
  ne : ¬ SBlk p F b
/-- The blocks of a memory. -/
def MBlk (b p : Nat) (F : List Nd) (c : Nat) : Prop := c = b ∨ SBlk p F c
theorem MemAt.lb {w : World} {b p : Nat} {F : List Nd} {f : Bool} {n : Int} (h : MemAt w b p F f n) : b < w.heap.size := (Array.getElem?_eq_some_iff.1 h.box).1
theorem MemAt.lt {w : World} {b p : Nat} {F : List Nd} {f : Bool} {n : Int} (h : MemAt w b p F f n) : ∀ c, MBlk b p F c → c < w.heap.size := by
  rintro c (rfl | e)
  · exact h.lb
  · exact h.sk.lt c e
theorem MemAt.below {w w' : World} {b p : Nat} {F : List Nd} {f : Bool} {n : Int} (h : MemAt w b p F f n) (hb : Below w.heap.size w w') : MemAt w' b p F f n :=
  ⟨h.sk.below hb, h.ok, (hb.block b h.lb).trans h.box, h.ne⟩
theorem MemAt.sets {S : Nat → Prop} {w w' : World} {b p : Nat} {F : List Nd} {f : Bool} {n : Int} (h : MemAt w b p F f n) (k : Sets S w w') (hS : ∀ c, MBlk b p F c → ¬ S c) : MemAt w' b p F f n :=
  ⟨h.sk.sets k (fun c hc => hS c (.inr hc)), h.ok, (k.block b h.lb (hS b (.inl rfl))).trans h.box, h.ne⟩
theorem ck {w : World} {g o : Nat} {v : Value} {w' : World} (hg : g < w.heap.size) (h : w.cell? ⟨g, o, none⟩ = some v) (hb : Below w.heap.size w w') : w'.cell? ⟨g, o, none⟩ = some v := (hb.cell (p := ⟨g, o, none⟩) hg).trans h

set_option maxHeartbeats 1000000 in
theorem mnew_any (w : World) : Calls Try.prog 11 #[] w fun e w' => ∃ b p H, e = .returned (.pointer (some ⟨b, 0, none⟩)) ∧ MemAt w' b p [H] false 0 ∧ (∀ c, MBlk b p [H] c → w.heap.size ≤ c) ∧ Below w.heap.size w w' := by
  go_enter Try.func11, Try.ntmps11
  go_wp2_with fail
  refine (Calls.mono (new_any _) ?_); rintro e w1 ⟨p, H, rfl, hS, ho, hg⟩
  have HS := hide hS
  have HO := hide ho
  have HB := hide hg
  clear hS ho hg
  go_wp2_with fail
  go_ret
  have hba := below_alloc (Below.refl w1.heap.size w1) (.cells (memC p 0 false 0) 65)
  have hp := heap_alloc_new w1 (.cells (memC p 0 false 0) 65)
  refine ⟨w1.heap.size, p, H, rfl, ⟨HS.out.below hba, new_ok HS.out, hp, fun e => Nat.lt_irrefl _ (HS.out.lt _ e)⟩, ?_, below_step HB.out hba⟩
  rintro c (rfl | e)
  · exact HB.out.size
  · exact HO.out c e

set_option maxRecDepth 100000 in
set_option maxHeartbeats 1000000 in
theorem freeze_any (b p : Nat) (F : List Nd) (f : Bool) (n : Int) (w : World) (hM : MemAt w b p F f n) :
    Calls Try.prog 16 #[.pointer (some ⟨b, 0, none⟩)] w fun e w' => e = .returned (.tuple #[]) ∧ MemAt w' b p F true n ∧ Sets (fun c => c = b) w w' := by
  have hba := below_alloc (Below.refl w.heap.size w) (.cells #[.pointer (some ⟨b, 0, none⟩)] 30)
  have hpn := heap_alloc_new w (.cells #[.pointer (some ⟨b, 0, none⟩)] 30)
  have hM1 := hM.below hba
  have hlb := hM.lb
  have hs0 : Sets (fun c => c = b) w (w.alloc (.cells #[.pointer (some ⟨b, 0, none⟩)] 30)) := Sets.of hba
  obtain ⟨w1, hw1⟩ : ∃ w1, w.alloc (.cells #[.pointer (some ⟨b, 0, none⟩)] 30) = w1 := ⟨_, rfl⟩
  have hpc : w1.cell? ⟨w.heap.size, 0, none⟩ = some (.pointer (some ⟨b, 0, none⟩)) := by rw [← hw1]; exact (cell_of_row _ _ 0 _ _ _ hpn).trans rfl
  rw [hw1] at hM1 hs0
  obtain ⟨_, ⟨m0, m1, m2, m3, m4, m5⟩, mz⟩ := mem_box hM1.box
  have HDO : Hid (Calls Try.prog 32 #[.pointer (some ⟨b, 1, none⟩), .func (.func 33) #[] #[.pointer (some ⟨w.heap.size, 0, none⟩)]] w1 fun e w' => e = .returned (.tuple #[]) ∧ MemAt w' b p F true n ∧ Sets (fun c => c = b) w w') := by
    refine hide ?_
    cases f with
    | false =>
      refine Calls.mono (freeze_first b ⟨w.heap.size, 0, none⟩ (by show ¬ b = w.heap.size; omega) false w1 hpc m1 m2 m4 mz) ?_
      rintro e w' ⟨rfl, rfl⟩
      have hst : Sets (fun c => c = b) w1 ((((w1.setCell ⟨b, 2, none⟩ (.int .i32 1)).setCell ⟨b, 4, none⟩ (.bool true)).drew.setCell ⟨b, 1, none⟩ (.int .u32 1)).setCell ⟨b, 2, none⟩ (.int .i32 0)) :=
        ((((Sets.refl (S := fun c => c = b) w1).set (g := b) (fun _ => rfl) 2 _).set (g := b) (fun _ => rfl) 4 _).drew.set (g := b) (fun _ => rfl) 1 _).set (g := b) (fun _ => rfl) 2 _
      refine ⟨rfl, ⟨hM1.sk.sets hst (fun c hc e => hM1.ne (e ▸ hc)), hM1.ok, mem_sets hM1.box, hM1.ne⟩, hs0.trans hst (fun _ _ h => h)⟩
    | true =>
      refine Calls.mono (once_done ⟨b, 1, none⟩ 1 (by decide) _ w1 m1) ?_
      rintro e w' ⟨rfl, rfl⟩
      exact ⟨rfl, hM1, hs0⟩
  clear hM hM1 hs0 m0 m1 m2 m3 m4 m5 mz hba hpn
  go_enter Try.func16, Try.ntmps16
  go_upto_region 1 with fail
  try rw [hw1]
  go_wp2_with fail
  refine (Calls.mono HDO.out ?_); rintro e w2 ⟨rfl, h2, h3⟩
  go_wp2_with fail
  go_end0
  exact ⟨rfl, h2, h3⟩
theorem frozen_any (b p : Nat) (F : List Nd) (f : Bool) (n : Int) (w : World) (hM : MemAt w b p F f n) : Calls Try.prog 19 #[.pointer (some ⟨b, 0, none⟩)] w fun e w' => e = .returned (.bool f) ∧ w' = w := by
  obtain ⟨_, ⟨m0, m1, m2, m3, m4, m5⟩, mz⟩ := mem_box hM.box
  clear hM
  go_enter Try.func19, Try.ntmps19
  go_wp2_with fail
  go_ret
  exact ⟨rfl, rfl⟩
theorem mlen_any (b p : Nat) (F : List Nd) (f : Bool) (n : Int) (w : World) (hM : MemAt w b p F f n) : Calls Try.prog 13 #[.pointer (some ⟨b, 0, none⟩)] w fun e w' => e = .returned (.int .i64 ((F.length : Int) - 1)) ∧ w' = w := by
  obtain ⟨_, ⟨m0, m1, m2, m3, m4, m5⟩, mz⟩ := mem_box hM.box
  have HL := hide (len_any p F w hM.sk)
  clear hM
  go_enter Try.func13, Try.ntmps13
  go_wp2_with fail
  refine (Calls.mono HL.out ?_); rintro e w4 ⟨rfl, rfl⟩
  go_wp2_with fail
  go_ret
  exact ⟨rfl, rfl⟩
theorem mitems_any (b p : Nat) (F : List Nd) (f : Bool) (n : Int) (w : World) (hM : MemAt w b p F f n) (hl : F.length ≤ 1099511627776) : Calls Try.prog 14 #[.pointer (some ⟨b, 0, none⟩)] w (RetOw (itsF F) w) := by
  obtain ⟨_, ⟨m0, m1, m2, m3, m4, m5⟩, mz⟩ := mem_box hM.box
  have HL := hide (all_any p F w hM.sk hl)
  rw [lvm hM.ok] at HL
  clear hM
  unfold RetOw
  go_enter Try.func14, Try.ntmps14
  go_wp2_with fail
  refine (Calls.mono HL.out ?_); rintro e w4 ⟨v, rfl, ho, hb⟩
  have HO := hide ho
  have HB := hide hb
  clear ho hb HL
  go_wp2_with fail
  go_ret
  exact ⟨_, rfl, HO.out, HB.out⟩
set_option maxRecDepth 100000 in
theorem mbytes_any (b p : Nat) (F : List Nd) (f : Bool) (n : Int) (w : World) (hM : MemAt w b p F f n) : Calls Try.prog 18 #[.pointer (some ⟨b, 0, none⟩)] w fun e w' => e = .returned (.int .i64 n) ∧ w' = w := by
  obtain ⟨_, ⟨m0, m1, m2, m3, m4, m5⟩, mz⟩ := mem_box hM.box
  have hl := run_call_load (P := Try.prog) Try.func51 (by kernel_rfl) (by kernel_rfl) (by kernel_rfl) .i64 (by kernel_rfl) m5
  clear hM
  go_enter Try.func18, Try.ntmps18
  go_wp2_with (go_at_call 37; go_in)
  go_ret
  exact ⟨rfl, rfl⟩
end Go.Proofs.Ytoejhekmfgkklaa
