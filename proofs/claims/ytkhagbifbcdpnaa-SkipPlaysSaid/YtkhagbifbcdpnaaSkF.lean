/- skip.List's from, From: contracts. Conditions: the list as it reads; its items rise; towers of 1 to 6. (UNDER WAY) -/
import Derived.Test.YtkhagbifbcdpnaaSkI
namespace Go.Proofs.Ytkhagbifbcdpnaa
set_option linter.unusedVariables false
set_option linter.unusedSimpArgs false
open Go.ChangeShapes Go.WideShapes Go.ChangeAt Go.RowKit

set_option maxHeartbeats 1600000 in
theorem fromp_any (p : Nat) (F : List Nd) (x : It) (w : World) (hS : SkAt w p F) (hF : SkOk F) :
    Calls Try.prog 26 #[.pointer (some ⟨p, 0, none⟩), x.val] w fun e w' => e = .returned (ptrO (F[lowI x (itsF F) + 1]?.map (·.b))) ∧ Below w.heap.size w w' := by
  obtain ⟨hF0, hF6, hFp⟩ := hS.pos
  have hql := low_len F x
  have hqF : lowI x (itsF F) < F.length := by omega
  have hb1 := below_alloc (Below.refl w.heap.size w) (.cells x.cells.toArray 30)
  have HBF := hide (before_any p F x _ (hS.below hb1) hF.up (fun n hn => (hF.hts n hn).2))
  have HB1 := hide hb1
  have HS1 := hide (hS.below hb1)
  have HZ := hide (prv_zero hF hqF)
  have HNX := hide (nx_zero hF (lowI x (itsF F)))
  have hk0 := (hF.hts _ (List.getElem_mem hqF)).1
  generalize lowI x (itsF F) = q at *
  clear hS hb1 hF0 hF6 hFp hF
  go_enter Try.func26, Try.ntmps26
  go_wp2_with fail
  refine (Calls.mono HBF.out ?_); rintro e w1 ⟨vs, hov, rfl, hg1⟩
  have HSW := hide (HS1.out.below hg1)
  have hv0 : vs[0]? = some (.pointer (some ⟨(F[q]'hqF).b, 0, none⟩)) := by
    obtain ⟨i, hi, e⟩ := hov.2.1 0 (by omega) (by omega)
    rw [e, prv_uniq hi HZ.out, bpV_at hqF]
  obtain ⟨o0, o1, o2, o3, o4, o5, rfl⟩ := out_all hov
  obtain rfl : o0 = some ⟨(F[q]'hqF).b, 0, none⟩ := by
    have := Option.some.inj hv0
    injection this
  have HB := hide (below_step HB1.out hg1)
  have HLD := hide (lev_load HSW.out hqF (k := 0) (by omega))
  obtain ⟨lb, lt, _, _, _, _, _, _, q5, _, _⟩ := HSW.out.nds.at_ _ (List.getElem_mem hqF)
  have hhI : (0 : Int) < (((F[q]'hqF).h : Nat) : Int) := by omega
  have hhN : 0 < (F[q]'hqF).h := by omega
  clear hov hv0 hg1
  generalize (F[q]'hqF) = nq at *
  have hix : ∀ W, (Instr.index 50 (.agg #[.pointer (some ⟨nq.b, 0, none⟩), .pointer o1, .pointer o2, .pointer o3, .pointer o4, .pointer o5]) (.int .i64 0)).run Try.prog W = .ok (.pointer (some ⟨nq.b, 0, none⟩)) W := fun _ => by kernel_rfl
  go_wp2_with fail
  refine (Calls.mono HLD.out ?_); rintro e w2 ⟨rfl, rfl⟩
  go_wp2_with fail
  go_ret
  exact ⟨by rw [← HNX.out]; rfl, HB.out⟩
end Go.Proofs.Ytkhagbifbcdpnaa
