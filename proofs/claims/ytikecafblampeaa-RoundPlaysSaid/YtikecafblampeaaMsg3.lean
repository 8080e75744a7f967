/- Messages: the document's SameMsg; msg.Copy: contracts. Conditions: the items readable. -/
import Derived.Test.YtikecafblampeaaMsg
import Derived.Test.YtikecafblampeaaApart
namespace Go.Proofs.Ytikecafblampeaa
set_option linter.unusedVariables false
set_option linter.unusedSimpArgs false
open Go.ChangeShapes Go.WideShapes Go.ChangeAt Go.RowKit

set_option maxRecDepth 100000 in
set_option maxHeartbeats 6400000 in
theorem samem_any (a b : Mg) (w : World) (ha : ItemsAt w a.A a.L) (hb : ItemsAt w b.A b.L) (hla : a.L.length ≤ 4611686018427387904) (hlb : b.L.length ≤ 4611686018427387904) :
    Calls Try.prog 42 #[a.val, b.val] w fun e w' => e = .returned (.bool (sameMB a b)) ∧ Below w.heap.size w w' := by
  obtain ⟨k, f, t, id, n, A, c, L⟩ := a
  obtain ⟨k', f', t', id', n', A', c', L'⟩ := b
  simp only at ha hb hla hlb
  have hbb := below_alloc (below_alloc (Below.refl w.heap.size w) (.cells #[.int .i64 k, .int .i64 f, .int .i64 t, .int .u64 id, .int .u64 n, .slice A L.length c] 30)) (.cells #[.int .i64 k', .int .i64 f', .int .i64 t', .int .u64 id', .int .u64 n', .slice A' L'.length c'] 30)
  have HEQ := hide (requal_any A A' c c' L L' _ (ha.below hbb) (hb.below hbb) hla hlb)
  have HB := hide hbb
  clear ha hb hla hlb hbb
  by_cases h0 : k = k'
  case neg =>
    have b0 : (k == k') = false := beq_eq_false_iff_ne.2 h0
    have HV : Hid (sameMB ⟨k, f, t, id, n, A, c, L⟩ ⟨k', f', t', id', n', A', c', L'⟩ = false) := hide (by unfold sameMB; simp [h0])
    rw [HV.out]
    go_enter Try.func42, Try.ntmps42
    go_wp2_with fail
    go_ret
    exact ⟨rfl, HB.out⟩
  subst h0
  by_cases h1 : f = f'
  case neg =>
    have b1 : (f == f') = false := beq_eq_false_iff_ne.2 h1
    have HV : Hid (sameMB ⟨k, f, t, id, n, A, c, L⟩ ⟨k, f', t', id', n', A', c', L'⟩ = false) := hide (by unfold sameMB; simp [h1])
    rw [HV.out]
    go_enter Try.func42, Try.ntmps42
    go_wp2_with fail
    go_ret
    exact ⟨rfl, HB.out⟩
  subst h1
  by_cases h2 : t = t'
  case neg =>
    have b2 : (t == t') = false := beq_eq_false_iff_ne.2 h2
    have HV : Hid (sameMB ⟨k, f, t, id, n, A, c, L⟩ ⟨k, f, t', id', n', A', c', L'⟩ = false) := hide (by unfold sameMB; simp [h2])
    rw [HV.out]
    go_enter Try.func42, Try.ntmps42
    go_wp2_with fail
    go_ret
    exact ⟨rfl, HB.out⟩
  subst h2
  by_cases h3 : id = id'
  case neg =>
    have b3 : (id == id') = false := beq_eq_false_iff_ne.2 h3
    have HV : Hid (sameMB ⟨k, f, t, id, n, A, c, L⟩ ⟨k, f, t, id', n', A', c', L'⟩ = false) := hide (by unfold sameMB; simp [h3])
    rw [HV.out]
    go_enter Try.func42, Try.ntmps42
    go_wp2_with fail
    go_ret
    exact ⟨rfl, HB.out⟩
  subst h3
  by_cases h4 : n = n'
  case neg =>
    have b4 : (n == n') = false := beq_eq_false_iff_ne.2 h4
    have HV : Hid (sameMB ⟨k, f, t, id, n, A, c, L⟩ ⟨k, f, t, id, n', A', c', L'⟩ = false) := hide (by unfold sameMB; simp [h4])
    rw [HV.out]
    go_enter Try.func42, Try.ntmps42
    go_wp2_with fail
    go_ret
    exact ⟨rfl, HB.out⟩
  subst h4
  generalize hq : eqL L L' = q at HEQ
  have HV : Hid (sameMB ⟨k, f, t, id, n, A, c, L⟩ ⟨k, f, t, id, n, A', c', L'⟩ = q) := hide (by unfold sameMB; simp [hq])
  rw [HV.out]
  go_enter Try.func42, Try.ntmps42
  go_wp2_with (go_at_call 13; refine (Calls.mono HEQ.out ?_); rintro e w2 ⟨rfl, hb2⟩; have HB2 := hide (below_step HB.out hb2); clear hb2)
  go_ret
  exact ⟨rfl, HB2.out⟩
theorem put6m {w : World} {g : Nat} {a0 a1 a2 a3 a4 a5 : Value} {t : TypeId} (v0 v1 v2 v3 v4 v5 : Value) (h : w.heap[g]? = some (.cells #[a0, a1, a2, a3, a4, a5] t (0, 0))) :
    ((((((w.setCell ⟨g, 0, none⟩ v0).setCell ⟨g, 1, none⟩ v1).setCell ⟨g, 2, none⟩ v2).setCell ⟨g, 3, none⟩ v3).setCell ⟨g, 4, none⟩ v4).setCell ⟨g, 5, none⟩ v5).heap[g]? = some (.cells #[v0, v1, v2, v3, v4, v5] t (0, 0)) := by
  simp [World.setCell, Array.getElem?_modify, h]
end Go.Proofs.Ytikecafblampeaa
