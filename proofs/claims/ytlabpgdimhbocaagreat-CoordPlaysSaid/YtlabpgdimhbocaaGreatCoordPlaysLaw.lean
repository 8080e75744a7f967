/- clepsydralaw24.CoordPlays holds of every input: it returns true, and each argument reads afterwards as it read before. No condition. -/
import Derived.Test.YtlabpgdimhbocaaGreatCoordPlays
namespace Go.Proofs.YtlabpgdimhbocaaGreat.coordPlays
set_option linter.unusedVariables false
set_option linter.unusedSimpArgs false
open Go.ChangeShapes Go.WideShapes Go.ChangeAt Go.RowKit

theorem own : ownKnob Tryz.prog.godebug = none := by kernel_rfl
theorem laidOut : laidOutB Tryz.prog = true := by kernel_rfl

set_option maxRecDepth 100000 in
theorem lifted (os : Os) (started : os.Started) (H : Type) (enc : TypeId × Value → H) :
    ReturnsInHanded {} Tryz.checked os 3 .any (Rows.coordPlaysSpec.pre6 enc Tryz.prog Tryz.f3 Rows.coordPlaysRow.domain false) (Rows.coordPlaysSpec.post enc Tryz.prog Tryz.f3 false true false false) := by
  refine returnsInHanded_of_change (C := Tryz.checked) own started (by kernel_rfl) Tryz.func3
    (ChangeSpec.witness6 (enc := enc) (C := Tryz.checked) false ⟨#[], #[.int .i64 0, .int .i64 0, .int .u64 0, .agg #[.int .i64 0, .int .i64 0, .int .u64 0, .int .i64 0], .int .u64 0, .slice none 0 0, .int .u64 0], []⟩ 8 (by kernel_rfl) (by kernel_rfl) (by kernel_rfl) (by kernel_rfl)) ?_
  intro W base args ds gs before hval0 hW hcnd _
  have hval : ∀ (j : Nat) t v, Tryz.f3.params[j]? = some t → args[j]? = some v → Value.okWide Tryz.prog W .any base t v := hval0
  have hlt : ∀ x ∈ before, x.block < W.heap.size := fun x hx => hW.lt x hx
  obtain ⟨p, q, hA0, hV, rfl, hfz, hnd⟩ := hW
  have hA : DataW.TrodAll enc Tryz.prog W 0 (fun _ => true) true Tryz.f3.params.toList args.toList ds p := hA0
  obtain ⟨rfl, rfl⟩ := trodVars_none hV
  rw [List.append_nil] at hfz hlt
  rw [Tryz.params3] at hA hval
  obtain ⟨v0, vs0, d0, ds0, p0, q0, hargs, hds, hp, h0, rest0⟩ := trodAll_cons hA
  obtain ⟨v1, vs1, d1, ds1, p1, q1, rfl, rfl, rfl, h1, rest1⟩ := trodAll_cons rest0
  obtain ⟨v2, vs2, d2, ds2, p2, q2, rfl, rfl, rfl, h2, rest2⟩ := trodAll_cons rest1
  obtain ⟨v3, vs3, d3, ds3, p3, q3, rfl, rfl, rfl, h3, rest3⟩ := trodAll_cons rest2
  obtain ⟨v4, vs4, d4, ds4, p4, q4, rfl, rfl, rfl, h4, rest4⟩ := trodAll_cons rest3
  obtain ⟨v5, vs5, d5, ds5, p5, q5, rfl, rfl, rfl, h5, rest5⟩ := trodAll_cons rest4
  obtain ⟨v6, vs6, d6, ds6, p6, q6, rfl, rfl, rfl, h6, rest6⟩ := trodAll_cons rest5
  obtain ⟨rfl, rfl, rfl⟩ := trodAll_nil rest6
  obtain rfl : args = #[v0, v1, v2, v3, v4, v5, v6] := by cases args; simp_all
  clear hA
  obtain ⟨a0, rfl, rfl, rfl, w0⟩ := open_int Tryz.underlying3 (hval 0 3 v0 rfl rfl) h0
  obtain ⟨a1, rfl, rfl, rfl, w1⟩ := open_int Tryz.underlying3 (hval 1 3 v1 rfl rfl) h1
  obtain ⟨a2, rfl, rfl, rfl, w2⟩ := open_int Tryz.underlying22 (hval 2 22 v2 rfl rfl) h2
  obtain ⟨a3, w3, rfl⟩ := open_struct (α := Cl) (cells := Cl.cells) (ok := Cl.wf) Tryz.underlying24 (dec_client Tryz.underlying24 (by kernel_rfl) (by kernel_rfl) Tryz.underlying3 Tryz.underlying3 Tryz.underlying22 Tryz.underlying2) (hval 3 24 v3 rfl rfl) h3
  obtain ⟨a4, rfl, rfl, rfl, w4⟩ := open_int Tryz.underlying22 (hval 4 22 v4 rfl rfl) h4
  obtain ⟨A5, c5, L5, rfl, lc5, cm5, r5, w5⟩ := open_row (α := Mg) (cells := Mg.cells) (ok := Mg.good W) (sz := 6) Tryz.underlying25 (by kernel_rfl) (by omega) (dec_msg Tryz.underlying39 (by kernel_rfl) (by kernel_rfl) Tryz.underlying3 Tryz.underlying3 Tryz.underlying3 Tryz.underlying22 Tryz.underlying22 (dec_slice (cells := It.cells) (ok := It.wf) (sz := 5) Tryz.underlying37 (by kernel_rfl) (by omega) (dec_item Tryz.underlying78 (by kernel_rfl) (by kernel_rfl) Tryz.underlying3 Tryz.underlying3 Tryz.underlying22 Tryz.underlying22 Tryz.underlying2))) (hval 5 25 v5 rfl rfl) h5
  obtain ⟨a6, rfl, rfl, rfl, w6⟩ := open_int Tryz.underlying22 (hval 6 22 v6 rfl rfl) h6
  refine (walk (w := W) a0 w0 a1 w1 a2 w2 a3 w3 a4 w4 A5 c5 L5 lc5 cm5 r5 w5 a6 w6).mono fun e W' ⟨he, hb⟩ => ?_
  subst he
  refine ⟨_, rfl, law_post (tb := 4) laidOut ?_ rfl rfl Tryz.underlying4 (by rw [hds]; rfl) hA0 hfz hb hlt⟩
  rw [Tryz.params3]
  intro t ht
  simp only [List.mem_cons, List.not_mem_nil, or_false] at ht
  rcases ht with rfl | rfl | rfl | rfl | rfl | rfl | rfl <;> exact ⟨by kernel_rfl, of_decide_eq_true (by kernel_rfl)⟩

/-- The given statement. -/
theorem proved : Rows.CoordPlaysSaid :=
  OpenClaim.holds_of_wide 3 Tryz.f3 rfl rfl rfl rfl rfl rfl rfl ⟨rfl, rfl, rfl, rfl, rfl⟩ rfl rfl rfl rfl rfl (by kernel_rfl) Tryz.func3 (by kernel_rfl)
    (of_decide_eq_true (by kernel_rfl)) (by unfold Func.isWrapper; first | (rw [if_pos (by decide +kernel)]; kernel_rfl) | (rw [if_neg (by decide +kernel)]; exact ⟨rfl, rfl⟩))
    (fun os started H enc _ => lifted os started H enc)
#print axioms proved
end Go.Proofs.YtlabpgdimhbocaaGreat.coordPlays
