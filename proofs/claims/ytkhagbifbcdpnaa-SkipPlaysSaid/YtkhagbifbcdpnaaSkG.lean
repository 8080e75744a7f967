/- skip.List's From, Get: contracts. Conditions: the list as it reads; its items rise; towers of 1 to 6. -/
import Derived.Test.YtkhagbifbcdpnaaSkF
namespace Go.Proofs.Ytkhagbifbcdpnaa
set_option linter.unusedVariables false
set_option linter.unusedSimpArgs false
open Go.ChangeShapes Go.WideShapes Go.ChangeAt Go.RowKit

/-- The least that is not ahead of an item; zero: there is none. -/
def fromL (L : List It) (x : It) : It := L[lowI x L]?.getD It.zero
theorem sameB_comm (a b : It) : sameB a b = sameB b a := by
  unfold sameB
  congr 1
  simp only [eq_iff_iff]
  unfold It.same
  omega
theorem its_len (F : List Nd) : (itsF F).length = F.length - 1 := by unfold itsF; simp
theorem sk_low {F : List Nd} (hF : 0 < F.length) (x : It) : (lowI x (itsF F) < (itsF F).length ↔ lowI x (itsF F) + 1 < F.length) := by rw [its_len]; omega
theorem al2z (w : World) (o1 o2 : Obj) : ((w.alloc o1).alloc o2).heap[w.heap.size + 1]? = some o2 ∧ Below w.heap.size w ((w.alloc o1).alloc o2) ∧ w.heap.size + 1 < ((w.alloc o1).alloc o2).heap.size :=
  ⟨heap_at (by simp), below_alloc (below_alloc (Below.refl _ _) _) _, by simp⟩
/-- A result's block of five cells, ahead of the five stores. -/
theorem res_box {w : World} {g : Nat} {a0 a1 a2 a3 a4 : Value} {t : TypeId} (h : w.heap[g]? = some (.cells #[a0, a1, a2, a3, a4] t (0, 0))) : g < w.heap.size ∧
    w.cell? ⟨g, 0, none⟩ = some a0 ∧ w.cell? ⟨g, 1, none⟩ = some a1 ∧ w.cell? ⟨g, 2, none⟩ = some a2 ∧ w.cell? ⟨g, 3, none⟩ = some a3 ∧ w.cell? ⟨g, 4, none⟩ = some a4 ∧ ∀ o, w.frozen? ⟨g, o, none⟩ = false :=
  ⟨(Array.getElem?_eq_some_iff.1 h).1, (cell_of_row w g 0 _ _ _ h).trans rfl, (cell_of_row w g 1 _ _ _ h).trans rfl, (cell_of_row w g 2 _ _ _ h).trans rfl, (cell_of_row w g 3 _ _ _ h).trans rfl, (cell_of_row w g 4 _ _ _ h).trans rfl, fun o => by simp [World.frozen?, h]⟩
/-- Five stores into a block above. -/
theorem res_below {B : Nat} {w0 w : World} {g : Nat} (h : Below B w0 w) (hg : B ≤ g) (v0 v1 v2 v3 v4 : Value) : Below B w0 (((((w.setCell ⟨g, 0, none⟩ v0).setCell ⟨g, 1, none⟩ v1).setCell ⟨g, 2, none⟩ v2).setCell ⟨g, 3, none⟩ v3).setCell ⟨g, 4, none⟩ v4) :=
  ((((h.setCell hg _).setCell hg _).setCell hg _).setCell hg _).setCell hg _
set_option maxHeartbeats 1600000 in
theorem from_any (p : Nat) (F : List Nd) (x : It) (w : World) (hS : SkAt w p F) (hF : SkOk F) :
    Calls Try.prog 14 #[.pointer (some ⟨p, 0, none⟩), x.val] w fun e w' => e = .returned (.tuple #[(fromL (itsF F) x).val, .bool (decide (lowI x (itsF F) < (itsF F).length))]) ∧ Below w.heap.size w w' := by
  have hF0 : 0 < F.length := hS.pos.1
  have hlow := sk_low hF0 x
  obtain ⟨hrow0, hb2, hlt2⟩ := al2z w (.cells x.cells.toArray 30) (.cells #[.int .i64 0, .int .i64 0, .int .u64 0, .int .u64 0, .int .i64 0] 30)
  have HS := hide (hS.below hb2)
  have HP := hide (fromp_any p F x _ (hS.below hb2) hF)
  have HW2 := hide hb2
  have HR0 := hide hrow0
  have hgB : w.heap.size ≤ w.heap.size + 1 := by omega
  have hql := low_len F x
  have HGX : Hid (∀ (h : lowI x (itsF F) < (itsF F).length) (h2 : lowI x (itsF F) + 1 < F.length), (itsF F)[lowI x (itsF F)]'h = (F[lowI x (itsF F) + 1]'h2).x) := hide (fun h h2 => itsF_get (j := lowI x (itsF F) + 1) (by omega) h2 h)
  unfold fromL
  generalize lowI x (itsF F) = q at *
  clear hS hF hb2 hrow0
  have HLT := hide hlt2
  clear hlt2
  by_cases hq : q + 1 < F.length
  · have hq2 := hlow.2 hq
    rw [List.getElem?_eq_getElem hq2, decide_eq_true hq2, HGX.out hq2 hq]
    rw [List.getElem?_eq_getElem hq] at HP
    have HN := hide (fun w' hw' => (HS.out.below (w' := w') hw').nds.at_ _ (List.getElem_mem hq))
    clear HGX hlow
    generalize (F[q + 1]'hq) = n at *
    go_enter Try.func14, Try.ntmps14
    go_wp2_with fail
    refine (Calls.mono HP.out ?_); rintro e w1 ⟨rfl, hg1⟩
    obtain ⟨lb, lt, _, z0, z1, z2, z3, z4, z5, _, _⟩ := HN.out _ hg1
    have HB := hide (below_step HW2.out hg1)
    have HR := hide ((hg1.block _ HLT.out).trans HR0.out)
    have hps : ptrO (Option.map (fun x => x.b) (some n)) = .pointer (some ⟨n.b, 0, none⟩) := rfl
    rw [hps]
    clear hg1 hps HN HW2 HS HR0 HLT HP
    generalize w.heap.size + 1 = g at *
    have hrow := HR.out
    have hrow2 := hrow
    obtain ⟨r0, r1, r2, r3, r4⟩ := box_item (put_res n.x hrow)
    have R0 := hide r0; have R1 := hide r1; have R2 := hide r2; have R3 := hide r3; have R4 := hide r4
    obtain ⟨lg, s0, s1, s2, s3, s4, sf⟩ := res_box hrow2
    clear r0 r1 r2 r3 r4 hrow hrow2
    go_wp2_with fail
    refine bodyPost_ret (v := .tuple #[It.val n.x, .bool true]) (by simp [results, Try.results14, go_sem, R0.out, R1.out, R2.out, R3.out, R4.out]) rfl ?_
    exact ⟨rfl, res_below HB.out hgB _ _ _ _ _⟩
  · have hq2 : ¬ q < (itsF F).length := fun h => hq (hlow.1 h)
    rw [List.getElem?_eq_none (by omega), decide_eq_false hq2]
    rw [List.getElem?_eq_none (by omega)] at HP
    clear HGX hlow
    go_enter Try.func14, Try.ntmps14
    go_wp2_with fail
    refine (Calls.mono HP.out ?_); rintro e w1 ⟨rfl, hg1⟩
    have HB := hide (below_step HW2.out hg1)
    have HR := hide ((hg1.block _ HLT.out).trans HR0.out)
    have hps : ptrO (Option.map (fun x : Nd => x.b) none) = .pointer none := rfl
    rw [hps]
    clear hg1 hps HW2 HS HR0 HLT HP
    generalize w.heap.size + 1 = g at *
    have hrow := HR.out
    have hrow2 := hrow
    obtain ⟨r0, r1, r2, r3, r4⟩ := box_item (put_res ⟨0, 0, 0, 0, 0⟩ hrow)
    have R0 := hide r0; have R1 := hide r1; have R2 := hide r2; have R3 := hide r3; have R4 := hide r4
    obtain ⟨lg, s0, s1, s2, s3, s4, sf⟩ := res_box hrow2
    clear r0 r1 r2 r3 r4 hrow hrow2
    go_wp2_with fail
    refine bodyPost_ret (v := .tuple #[It.val ⟨0, 0, 0, 0, 0⟩, .bool false]) (by simp [results, Try.results14, go_sem, R0.out, R1.out, R2.out, R3.out, R4.out]) rfl ?_
    exact ⟨rfl, res_below HB.out hgB _ _ _ _ _⟩
/-- What Get tells. -/
def getSk (L : List It) (x : It) : It := if sameAt x L then fromL L x else It.zero
set_option maxHeartbeats 1600000 in
theorem get_sk (p : Nat) (F : List Nd) (x : It) (w : World) (hS : SkAt w p F) (hF : SkOk F) :
    Calls Try.prog 18 #[.pointer (some ⟨p, 0, none⟩), x.val] w fun e w' => e = .returned (.tuple #[(getSk (itsF F) x).val, .bool (sameAt x (itsF F))]) ∧ Below w.heap.size w w' := by
  obtain ⟨hrow0, hb2, hlt2⟩ := al2z w (.cells x.cells.toArray 30) (.cells #[.int .i64 0, .int .i64 0, .int .u64 0, .int .u64 0, .int .i64 0] 30)
  have hx0 : BxAt ((w.alloc (.cells x.cells.toArray 30)).alloc (.cells #[.int .i64 0, .int .i64 0, .int .u64 0, .int .u64 0, .int .i64 0] 30)) w.heap.size x := BxAt.box ((Below.heap_alloc _ _ _ (by simp)).trans (heap_alloc_new w _))
  have HP := hide (from_any p F x _ (hS.below hb2) hF)
  have HW2 := hide hb2
  have HR0 := hide hrow0
  have HLT := hide hlt2
  have HX0 := hide hx0
  have hgB : w.heap.size ≤ w.heap.size + 1 := by omega
  have HSM := hide (fun W => psame_any x (fromL (itsF F) x) W)
  have hsa : sameAt x (itsF F) = (decide (lowI x (itsF F) < (itsF F).length) && sameB x (fromL (itsF F) x)) := by
    by_cases h : lowI x (itsF F) < (itsF F).length
    · rw [sameAt_in h, decide_eq_true h, Bool.true_and, sameB_comm]
      unfold fromL
      rw [List.getElem?_eq_getElem h]
      rfl
    · rw [sameAt_out (by omega), decide_eq_false h]
      rfl
  unfold getSk
  generalize fromL (itsF F) x = y at *
  generalize sameAt x (itsF F) = s at *
  generalize decide (lowI x (itsF F) < (itsF F).length) = ok at *
  clear hS hF hb2 hrow0 hlt2 hx0
  obtain ⟨b, hb⟩ : ∃ b, sameB x y = b := ⟨_, rfl⟩
  rw [hb] at HSM hsa
  clear hb
  subst hsa
  cases ok with
  | false =>
    rw [show (if (false && b) = true then y else It.zero) = It.zero from rfl, show (false && b) = false from rfl]
    go_enter Try.func18, Try.ntmps18
    go_wp2_with fail
    refine (Calls.mono HP.out ?_); rintro e w1 ⟨rfl, hg1⟩
    have HBa := hide (below_step HW2.out hg1)
    have HRa := hide ((hg1.block _ HLT.out).trans HR0.out)
    have HXa := hide (BxAt.kept HX0.out hg1.size (hg1.block _ HX0.out.lt))
    clear hg1 HW2 HR0 HLT HP HX0
    have hba := below_alloc (Below.refl w1.heap.size w1) (.cells #[.int .i64 y.s, .int .i64 y.k, .int .u64 y.t, .int .u64 y.v, .int .i64 y.x] 30)
    have HB := hide (below_step HBa.out hba)
    have HR := hide ((hba.block _ (Array.getElem?_eq_some_iff.1 HRa.out).1).trans HRa.out)
    obtain ⟨lx, x0, x1, x2, x3, x4⟩ := HXa.out
    clear hba HBa HXa
    generalize w.heap.size + 1 = g at *
    have hrow := HR.out
    have hrow2 := hrow
    obtain ⟨r0, r1, r2, r3, r4⟩ := box_item (put_res ⟨0, 0, 0, 0, 0⟩ hrow)
    have R0 := hide r0; have R1 := hide r1; have R2 := hide r2; have R3 := hide r3; have R4 := hide r4
    obtain ⟨lg, s0, s1, s2, s3, s4, sf⟩ := res_box hrow2
    clear r0 r1 r2 r3 r4 hrow hrow2
    go_wp2_with fail
    refine bodyPost_ret (v := .tuple #[It.val ⟨0, 0, 0, 0, 0⟩, .bool false]) (by simp [results, Try.results18, go_sem, R0.out, R1.out, R2.out, R3.out, R4.out]) rfl ?_
    exact ⟨rfl, res_below HB.out hgB _ _ _ _ _⟩
  | true =>
    cases b with
    | false =>
      rw [show (if (true && false) = true then y else It.zero) = It.zero from rfl, show (true && false) = false from rfl]
      go_enter Try.func18, Try.ntmps18
      go_wp2_with fail
      refine (Calls.mono HP.out ?_); rintro e w1 ⟨rfl, hg1⟩
      have HBa := hide (below_step HW2.out hg1)
      have HRa := hide ((hg1.block _ HLT.out).trans HR0.out)
      have HXa := hide (BxAt.kept HX0.out hg1.size (hg1.block _ HX0.out.lt))
      clear hg1 HW2 HR0 HLT HP HX0
      have hba := below_alloc (Below.refl w1.heap.size w1) (.cells #[.int .i64 y.s, .int .i64 y.k, .int .u64 y.t, .int .u64 y.v, .int .i64 y.x] 30)
      have HB := hide (below_step HBa.out hba)
      have HR := hide ((hba.block _ (Array.getElem?_eq_some_iff.1 HRa.out).1).trans HRa.out)
      obtain ⟨lx, x0, x1, x2, x3, x4⟩ := HXa.out
      clear hba HBa HXa
      go_wp2_with fail
      refine (Calls.mono (HSM.out _) ?_); rintro e w2 ⟨rfl, hg2⟩
      have HB2 := hide (below_step HB.out hg2)
      have HR2 := hide ((hg2.block _ (Array.getElem?_eq_some_iff.1 HR.out).1).trans HR.out)
      obtain ⟨yl, y0, y1, y2, y3, y4⟩ : BxAt w2 w1.heap.size y := BxAt.kept (BxAt.box (heap_alloc_new w1 (.cells y.cells.toArray 30))) hg2.size (hg2.block _ (by simp))
      have hgne : w.heap.size + 1 ≠ w1.heap.size := fun e => by have := (Array.getElem?_eq_some_iff.1 HRa.out).1; omega
      clear hg2 HB HR HRa x0 x1 x2 x3 x4 lx
      generalize w1.heap.size = gy at *
      generalize w.heap.size + 1 = g at *
      have hrow := HR2.out
      have hrow2 := hrow
      obtain ⟨r0, r1, r2, r3, r4⟩ := box_item (put_res ⟨0, 0, 0, 0, 0⟩ hrow)
      have R0 := hide r0; have R1 := hide r1; have R2 := hide r2; have R3 := hide r3; have R4 := hide r4
      obtain ⟨lg, s0, s1, s2, s3, s4, sf⟩ := res_box hrow2
      clear r0 r1 r2 r3 r4 hrow hrow2
      go_wp2_with fail
      refine bodyPost_ret (v := .tuple #[It.val ⟨0, 0, 0, 0, 0⟩, .bool false]) (by simp [results, Try.results18, go_sem, R0.out, R1.out, R2.out, R3.out, R4.out]) rfl ?_
      exact ⟨rfl, res_below HB2.out hgB _ _ _ _ _⟩
    | true =>
      rw [show (if (true && true) = true then y else It.zero) = y from rfl, show (true && true) = true from rfl]
      go_enter Try.func18, Try.ntmps18
      go_wp2_with fail
      refine (Calls.mono HP.out ?_); rintro e w1 ⟨rfl, hg1⟩
      have HBa := hide (below_step HW2.out hg1)
      have HRa := hide ((hg1.block _ HLT.out).trans HR0.out)
      have HXa := hide (BxAt.kept HX0.out hg1.size (hg1.block _ HX0.out.lt))
      clear hg1 HW2 HR0 HLT HP HX0
      have hba := below_alloc (Below.refl w1.heap.size w1) (.cells #[.int .i64 y.s, .int .i64 y.k, .int .u64 y.t, .int .u64 y.v, .int .i64 y.x] 30)
      have HB := hide (below_step HBa.out hba)
      have HR := hide ((hba.block _ (Array.getElem?_eq_some_iff.1 HRa.out).1).trans HRa.out)
      obtain ⟨lx, x0, x1, x2, x3, x4⟩ := HXa.out
      clear hba HBa HXa
      go_wp2_with fail
      refine (Calls.mono (HSM.out _) ?_); rintro e w2 ⟨rfl, hg2⟩
      have HB2 := hide (below_step HB.out hg2)
      have HR2 := hide ((hg2.block _ (Array.getElem?_eq_some_iff.1 HR.out).1).trans HR.out)
      obtain ⟨yl, y0, y1, y2, y3, y4⟩ : BxAt w2 w1.heap.size y := BxAt.kept (BxAt.box (heap_alloc_new w1 (.cells y.cells.toArray 30))) hg2.size (hg2.block _ (by simp))
      have hgne : w.heap.size + 1 ≠ w1.heap.size := fun e => by have := (Array.getElem?_eq_some_iff.1 HRa.out).1; omega
      clear hg2 HB HR HRa x0 x1 x2 x3 x4 lx
      generalize w1.heap.size = gy at *
      generalize w.heap.size + 1 = g at *
      have hrow := HR2.out
      have hrow2 := hrow
      obtain ⟨r0, r1, r2, r3, r4⟩ := box_item (put_res y hrow)
      have R0 := hide r0; have R1 := hide r1; have R2 := hide r2; have R3 := hide r3; have R4 := hide r4
      obtain ⟨lg, s0, s1, s2, s3, s4, sf⟩ := res_box hrow2
      clear r0 r1 r2 r3 r4 hrow hrow2
      go_wp2_with fail
      refine bodyPost_ret (v := .tuple #[It.val y, .bool true]) (by simp [results, Try.results18, go_sem, R0.out, R1.out, R2.out, R3.out, R4.out]) rfl ?_
      exact ⟨rfl, res_below HB2.out hgB _ _ _ _ _⟩
end Go.Proofs.Ytkhagbifbcdpnaa
