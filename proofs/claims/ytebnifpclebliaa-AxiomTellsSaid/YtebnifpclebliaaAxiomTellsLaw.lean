/- clepsydralaw27.AxiomTells holds of every input: it returns true, and each argument reads afterwards as it read before. No condition. -/
import Derived.Test.YtebnifpclebliaaAxiomTells
namespace Go.Proofs.Ytebnifpclebliaa.axiomTells
set_option linter.unusedVariables false
set_option linter.unusedSimpArgs false
open Go.ChangeShapes Go.WideShapes Go.ChangeAt Go.RowKit

theorem own : ownKnob Try.prog.godebug = none := by kernel_rfl
theorem laidOut : laidOutB Try.prog = true := by kernel_rfl

set_option maxRecDepth 100000 in
theorem lifted (os : Os) (started : os.Started) (H : Type) (enc : TypeId × Value → H) :
    ReturnsInHanded {} Try.checked os 4 .any (Rows.axiomTellsSpec.pre6 enc Try.prog Try.f4 Rows.axiomTellsRow.domain false) (Rows.axiomTellsSpec.post enc Try.prog Try.f4 false true false false) := by
  refine returnsInHanded_of_change (C := Try.checked) own started (by kernel_rfl) Try.func4
    (ChangeSpec.witness6 (enc := enc) (C := Try.checked) false ⟨#[], #[.slice none 0 0, .slice none 0 0, .slice none 0 0, .int .i64 0, .slice none 0 0, .int .u64 0], []⟩ 8 (by kernel_rfl) (by kernel_rfl) (by kernel_rfl) (by kernel_rfl)) ?_
  intro W base args ds gs before hval0 hW hcnd _
  have hval : ∀ (j : Nat) t v, Try.f4.params[j]? = some t → args[j]? = some v → Value.okWide Try.prog W .any base t v := hval0
  have hlt : ∀ x ∈ before, x.block < W.heap.size := fun x hx => hW.lt x hx
  obtain ⟨p, q, hA0, hV, rfl, hfz, hnd⟩ := hW
  have hA : DataW.TrodAll enc Try.prog W 0 (fun _ => true) true Try.f4.params.toList args.toList ds p := hA0
  obtain ⟨rfl, rfl⟩ := trodVars_none hV
  rw [List.append_nil] at hfz hlt
  rw [Try.params4] at hA hval
  obtain ⟨v0, vs0, d0, ds0, p0, q0, hargs, hds, hp, h0, rest0⟩ := trodAll_cons hA
  obtain ⟨v1, vs1, d1, ds1, p1, q1, rfl, rfl, rfl, h1, rest1⟩ := trodAll_cons rest0
  obtain ⟨v2, vs2, d2, ds2, p2, q2, rfl, rfl, rfl, h2, rest2⟩ := trodAll_cons rest1
  obtain ⟨v3, vs3, d3, ds3, p3, q3, rfl, rfl, rfl, h3, rest3⟩ := trodAll_cons rest2
  obtain ⟨v4, vs4, d4, ds4, p4, q4, rfl, rfl, rfl, h4, rest4⟩ := trodAll_cons rest3
  obtain ⟨v5, vs5, d5, ds5, p5, q5, rfl, rfl, rfl, h5, rest5⟩ := trodAll_cons rest4
  obtain ⟨rfl, rfl, rfl⟩ := trodAll_nil rest5
  obtain rfl : args = #[v0, v1, v2, v3, v4, v5] := by cases args; simp_all
  clear hA
  obtain ⟨A0, c0, L0, rfl, lc0, cm0, r0, w0⟩ := open_row (α := An) (cells := An.cells) (ok := fun _ => True) (sz := 8) Try.underlying26 (by kernel_rfl) (by omega) (dec_ans Try.underlying41 (by kernel_rfl) ⟨rfl, by kernel_rfl⟩ ⟨rfl, by kernel_rfl⟩ ⟨rfl, by kernel_rfl⟩ ⟨rfl, by kernel_rfl⟩ ⟨rfl, by kernel_rfl⟩ Try.underlying23 (dec_client Try.underlying38 (by kernel_rfl) (by kernel_rfl) Try.underlying3 Try.underlying3 Try.underlying23 Try.underlying2) Try.underlying39 Try.underlying23 (fun n cs x h => by obtain ⟨s, _, e⟩ := dec_slice (cells := It.cells) (ok := It.wf) (sz := 5) Try.underlying24 (by kernel_rfl) (by omega) (dec_item Try.underlying32 (by kernel_rfl) (by kernel_rfl) Try.underlying3 Try.underlying3 Try.underlying23 Try.underlying23 Try.underlying2) n cs x h; exact ⟨s.A, s.L.length, s.c, e⟩)) (hval 0 26 v0 rfl rfl) h0
  obtain ⟨A1, c1, L1, rfl, lc1, cm1, r1, w1⟩ := open_row (α := Int) (cells := fun a => [.int .u64 a]) (ok := fun a => (Lit.int .u64 a).wf = true) (sz := 1) Try.underlying34 (by kernel_rfl) (by omega) (dec_int Try.underlying23) (hval 1 34 v1 rfl rfl) h1
  obtain ⟨A2, c2, L2, rfl, lc2, cm2, r2, w2⟩ := open_row (α := It) (cells := It.cells) (ok := It.wf) (sz := 5) Try.underlying24 (by kernel_rfl) (by omega) (dec_item Try.underlying32 (by kernel_rfl) (by kernel_rfl) Try.underlying3 Try.underlying3 Try.underlying23 Try.underlying23 Try.underlying2) (hval 2 24 v2 rfl rfl) h2
  obtain ⟨a3, rfl, rfl, rfl, w3⟩ := open_int Try.underlying3 (hval 3 3 v3 rfl rfl) h3
  obtain ⟨A4, c4, L4, rfl, lc4, cm4, r4, w4⟩ := open_row (α := Sv It) (cells := fun s => [s.val]) (ok := Sv.good It.cells 5 It.wf W) (sz := 1) Try.underlying29 (by kernel_rfl) (by omega) (dec_slice (cells := It.cells) (ok := It.wf) (sz := 5) Try.underlying24 (by kernel_rfl) (by omega) (dec_item Try.underlying32 (by kernel_rfl) (by kernel_rfl) Try.underlying3 Try.underlying3 Try.underlying23 Try.underlying23 Try.underlying2)) (hval 4 29 v4 rfl rfl) h4
  obtain ⟨a5, rfl, rfl, rfl, w5⟩ := open_int Try.underlying23 (hval 5 23 v5 rfl rfl) h5
  refine (walk (w := W) A0 c0 L0 lc0 cm0 r0 A1 c1 L1 lc1 cm1 r1 w1 A2 c2 L2 lc2 cm2 r2 w2 a3 w3 A4 c4 L4 lc4 cm4 r4 w4 a5 w5).mono fun e W' ⟨he, hb⟩ => ?_
  subst he
  refine ⟨_, rfl, law_post (tb := 4) laidOut ?_ rfl rfl Try.underlying4 (by rw [hds]; rfl) hA0 hfz hb hlt⟩
  rw [Try.params4]
  intro t ht
  simp only [List.mem_cons, List.not_mem_nil, or_false] at ht
  rcases ht with rfl | rfl | rfl | rfl | rfl | rfl <;> exact ⟨by kernel_rfl, of_decide_eq_true (by kernel_rfl)⟩

/-- The given statement. -/
theorem proved : Rows.AxiomTellsSaid :=
  OpenClaim.holds_of_wide 4 Try.f4 rfl rfl rfl rfl rfl rfl rfl ⟨rfl, rfl, rfl, rfl, rfl⟩ rfl rfl rfl rfl rfl (by kernel_rfl) Try.func4 (by kernel_rfl)
    (of_decide_eq_true (by kernel_rfl)) (by unfold Func.isWrapper; first | (rw [if_pos (by decide +kernel)]; kernel_rfl) | (rw [if_neg (by decide +kernel)]; exact ⟨rfl, rfl⟩))
    (fun os started H enc _ => lifted os started H enc)
#print axioms proved
end Go.Proofs.Ytebnifpclebliaa.axiomTells
