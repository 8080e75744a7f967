/- clepsydralaw8.awake returns true: a contract. No condition. -/
import Derived.Test.YtkhagbifbcdpnaaSkQ
namespace Go.Proofs.Ytkhagbifbcdpnaa
set_option linter.unusedVariables false
set_option linter.unusedSimpArgs false
open Go.ChangeShapes Go.WideShapes Go.ChangeAt Go.RowKit

theorem SkAt.lt {w : World} {p : Nat} {F : List Nd} (h : SkAt w p F) : ∀ b, SBlk p F b → b < w.heap.size := by
  rintro b (rfl | ⟨n, hn, rfl | rfl⟩)
  · exact h.lp
  · exact (h.nds.at_ n hn).lb
  · exact (h.nds.at_ n hn).lt
theorem PutTo.below {w0 w w' : World} {p : Nat} {F F' : List Nd} {x : It} {h : Int} {B : Nat} (k : PutTo w w' p F x h F') (hb : Below B w0 w) (hB : ∀ b, SBlk p F b → B ≤ b) (hz : B ≤ w0.heap.size) : Below B w0 w' :=
  ⟨k.sets.os.trans hb.os, k.sets.tape.trans hb.tape, k.sets.output.trans hb.output, Nat.le_trans hb.size k.sets.size, fun b hlt => (k.sets.block b (by have := hb.size; omega) (fun e => by have := hB b e; omega)).trans (hb.block b hlt)⟩
theorem PutTo.base {w w' : World} {p : Nat} {F F' : List Nd} {x : It} {h : Int} {B : Nat} (k : PutTo w w' p F x h F') (hB : ∀ b, SBlk p F b → B ≤ b) (hz : B ≤ w.heap.size) : ∀ b, SBlk p F' b → B ≤ b := fun b hb => by
  rcases k.own b hb with e | e
  · exact hB b e
  · omega
set_option maxHeartbeats 1600000 in
theorem awake8_any (w : World) : Calls Try.prog 12 #[] w fun e w' => e = .returned (.bool true) ∧ Below w.heap.size w w' := by
  go_enter Try.func12, Try.ntmps12
  go_wp2_with fail
  refine (Calls.mono (new_any _) ?_); rintro e w1 ⟨p, H, rfl, hS, hown, hg1⟩
  have hba := below_alloc (Below.refl w1.heap.size w1) (.cells (It.cells ⟨3, 2, 0, 4, 0⟩).toArray 30)
  have hgb := heap_alloc_new w1 (.cells (It.cells ⟨3, 2, 0, 4, 0⟩).toArray 30)
  have HOK := hide (new_ok hS)
  have HS := hide (hS.below hba)
  have HOW := hide hown
  have HB := hide (below_step hg1 hba)
  have HN : Hid (∀ b, SBlk p [H] b → b < w1.heap.size) := hide hS.lt
  have HG := hide hgb
  have HZ := hide hg1.size
  clear hS hown hg1 hba hgb
  go_wp2_with fail
  refine (Calls.mono (skput_any p [H] ⟨3, 2, 0, 4, 0⟩ 2 _ HS.out HOK.out (by simp)) ?_); rintro e w2 ⟨F, rfl, hP⟩
  have e1 : skR ⟨3, 2, 0, 4, 0⟩ 2 (itsF [H]) = true ∧ skE ⟨3, 2, 0, 4, 0⟩ 2 = 0 := by show skR ⟨3, 2, 0, 4, 0⟩ 2 [] = true ∧ _; decide
  rw [e1.1, e1.2]
  have hgz : w1.heap.size < (w1.alloc (.cells (It.cells ⟨3, 2, 0, 4, 0⟩).toArray 30)).heap.size := by simp
  have hg2 := (hP.sets.block w1.heap.size hgz (fun e => Nat.lt_irrefl _ (HN.out _ e))).trans HG.out
  have HB2 : Hid (Below w.heap.size w w2) := hide (hP.below HB.out HOW.out (Nat.le_refl _))
  have HO2 := hide (hP.base HOW.out HB.out.size)
  have hgF : ∀ b, SBlk p F b → b ≠ w1.heap.size := fun b hb e => by
    rcases hP.own b hb with h | h
    · exact absurd (HN.out b h) (by rw [e]; exact Nat.lt_irrefl _)
    · exact absurd (Nat.lt_of_lt_of_le hgz h) (by rw [e]; exact Nat.lt_irrefl _)
  have hits : itsF F = [⟨3, 2, 0, 4, 0⟩] := hP.its.trans (by show skL ⟨3, 2, 0, 4, 0⟩ 2 [] = _; rfl)
  have hlF := hP.len
  have HS2 := hide hP.at_
  have HK2 := hide hP.ok
  have HI2 := hide hits
  have hlt2 := Nat.lt_of_lt_of_le hgz hP.sets.size
  have HG2 := hide hg2
  have HGF := hide hgF
  clear e1 hP hgz hg2 hits hgF HG HN HOW HOK HB HS
  generalize w1.heap.size = g at *
  obtain ⟨_, b0, b1, b2, b3, b4⟩ := BxAt.box (x := ⟨3, 2, 0, 4, 0⟩) HG2.out
  have bf := free_at HG2.out
  go_wp2_with fail
  have hst := (Sets.refl (S := fun c => c = g) w2).set (g := g) (fun _ => rfl) 3 (.int .u64 3)
  refine (Calls.mono (skput_any p F ⟨3, 2, 0, 3, 0⟩ 1 _ (HS2.out.sets hst HGF.out) HK2.out (by simp at hlF; omega)) ?_); rintro e w3 ⟨F2, rfl, hP⟩
  have e1 : skR ⟨3, 2, 0, 3, 0⟩ 1 (itsF F) = false ∧ skE ⟨3, 2, 0, 3, 0⟩ 1 = 0 := by rw [HI2.out]; decide
  have hits : itsF F2 = [⟨3, 2, 0, 4, 0⟩] := hP.its.trans (by rw [HI2.out]; rfl)
  rw [e1.1, e1.2]
  have HB3 : Hid (Below w.heap.size w w3) := hide (hP.below (HB2.out.setCell HZ.out _) HO2.out (Nat.le_refl _))
  have HL := hide (len_any p F2 w3 hP.at_)
  have hl : (F2.length : Int) - 1 = 1 := by
    have h1 := its_len F2
    have h2 := hP.at_.pos.1
    rw [hits] at h1
    simp at h1
    omega
  rw [hl] at HL
  clear e1 hits hP hl hst b0 b1 b2 b3 b4 bf HS2 HK2 HI2 HG2 HGF HB2 HO2 hlF hlt2
  go_wp2_with fail
  refine (Calls.mono HL.out ?_); rintro e w4 ⟨rfl, rfl⟩
  go_wp2_with fail
  go_ret
  exact ⟨rfl, HB3.out⟩
end Go.Proofs.Ytkhagbifbcdpnaa
