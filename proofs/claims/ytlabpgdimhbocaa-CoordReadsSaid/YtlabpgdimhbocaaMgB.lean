/- What messages say; rows of messages: append, the document's SameMsgs. Conditions: readable. -/
import Derived.Test.YtlabpgdimhbocaaMsg3
import Derived.Test.YtlabpgdimhbocaaJ
import Derived.BigQuiet
namespace Go.Proofs.Ytlabpgdimhbocaa
set_option linter.unusedVariables false
set_option linter.unusedSimpArgs false
open Go.ChangeShapes Go.WideShapes Go.ChangeAt Go.RowKit
/-- What a message says. -/
def Mg.bare (m : Mg) : Mg := { m with A := none, c := 0 }
theorem bare_same (m : Mg) : Mg.same m m.bare := ⟨rfl, rfl, rfl, rfl, rfl, rfl⟩
theorem bare_eq {a b : Mg} (h : Mg.same a b) : a.bare = b.bare := by
  obtain ⟨h1, h2, h3, h4, h5, h6⟩ := h
  unfold Mg.bare
  rw [h1, h2, h3, h4, h5, h6]
theorem app_msg (u : World) (base : Nat) (v : Value) (L : List Mg) (hown : OwnL Mg.cells 6 33 base u v L) (A : Option Addr) (c : Nat) (M : List Mg) (hr : RowAt Mg.cells 6 u A M) (hA : A = none → M = []) (hn : L.length + M.length ≤ 1000000) (hbase : base ≤ u.heap.size) :
    ∃ v' w', (Builtin.append_ #[41, 41] 41 #[v, .slice A M.length c]).run Try.prog u = .ok v' w' ∧ OwnL Mg.cells 6 33 base w' v' (L ++ M) ∧ u.grownBy w' v.ownBlock ∧ (v'.ownBlock = v.ownBlock ∨ v'.ownBlock = some u.heap.size) := by
  obtain ⟨i0, hi, hz0, hz1, hz2⟩ := info_parts Try.infoMsg
  exact run_append_row (P := Try.prog) u base 41 41 33 i0 _ 6 64 Try.underlying41 hi hz0 hz1 hz2 rfl (by omega) Mg.cells_len v L hown A c M hr hA (fun m _ => Mg.cells_one m) (by simp only [maxLen]; omega) (by omega) hbase
theorem step_app_msg {ops : Array Oper} {o : Oper} {a : Act} {u : World} {K : Act → World → Prop} {Q : Exit → Act → World → Prop} {E : Prop} (hgd : o.guard = none) (s x : Operand)
    (ho : o.op = .call { callee := .builtin .append, args := #[s, x], argTypes := #[41, 41] }) (hty : o.type = 41)
    (base : Nat) (v : Value) (L : List Mg) (hs : a.eval s = v) (hown : OwnL Mg.cells 6 33 base u v L) (A : Option Addr) (c n : Nat) (M : List Mg) (hM : M.length = n) (hx : a.eval x = .slice A n c) (hr : RowAt Mg.cells 6 u A M) (hn : L.length + n ≤ 1000000) (hbase : base ≤ u.heap.size)
    (h : ∀ v' w', OwnL Mg.cells 6 33 base w' v' (L ++ M) → u.grownBy w' v.ownBlock → (v'.ownBlock = v.ownBlock ∨ v'.ownBlock = some u.heap.size) → K (a.put o.dst v') w') : if Region.wanted o (yielded ops a.tmps) = true then Oper.wp Try.prog o a u K Q else E := by
  subst hM
  have hw : Region.wanted o (yielded ops a.tmps) = true := by simp [Region.wanted, hgd]
  rw [if_pos hw]
  obtain ⟨v', w', hrun, h2, h3, h4⟩ := app_msg u base v L hown A c M hr (fun e => by
    subst e
    cases M with
    | nil => rfl
    | cons a M => obtain ⟨b, off, e, _⟩ := hr (by simp); cases e) hn hbase
  unfold Oper.wp execOp
  simp only [ho, hty, resolve, invoke, builtin, Sem.run_bind, Sem.run_pure, Result.andThen_ok, List.map_toArray, List.map_cons, List.map_nil, hs, hx, hrun]
  exact h v' w' h2 h3 h4
/-- A message without items. -/
abbrev mg0 (k id : Int) : Mg := ⟨k, 0, 0, id, 0, none, 0, []⟩
theorem mg0_rd (w : World) (x : Mg) (h : x.A = none) (hL : x.L = []) (hc : x.c = 0) : x.rd w := by
  refine ⟨?_, by rw [hL, hc]; simp, by rw [hc]; simp⟩
  rw [hL]; exact RowAt.nil_
theorem bare_lit {x : Mg} {k f t id n : Int} {L : List It} (h : x.bare = ⟨k, f, t, id, n, none, 0, L⟩) : ∃ A c, x = ⟨k, f, t, id, n, A, c, L⟩ := by
  obtain ⟨k', f', t', id', n', A', c', L'⟩ := x
  unfold Mg.bare at h
  injection h with h1 h2 h3 h4 h5 _ _ h6
  subst h1 h2 h3 h4 h5 h6
  exact ⟨A', c', rfl⟩
theorem mg_row {w w' : World} {A : Option Addr} {M : List Mg} (h : RowAt Mg.cells 6 w A M) (hb : Below w.heap.size w w') {k : Nat} (hk : k < M.length) :
    ∃ g off, A = some ⟨g, off, none⟩ ∧ g < w.heap.size ∧ w'.cell? ⟨g, off + k * 6, none⟩ = some (.int .i64 (M[k]).k) ∧ w'.cell? ⟨g, off + k * 6 + 1, none⟩ = some (.int .i64 (M[k]).f) ∧ w'.cell? ⟨g, off + k * 6 + 2, none⟩ = some (.int .i64 (M[k]).t) ∧
      w'.cell? ⟨g, off + k * 6 + 3, none⟩ = some (.int .u64 (M[k]).id) ∧ w'.cell? ⟨g, off + k * 6 + 4, none⟩ = some (.int .u64 (M[k]).n) ∧ w'.cell? ⟨g, off + k * 6 + 5, none⟩ = some (.slice (M[k]).A (M[k]).L.length (M[k]).c) := by
  obtain ⟨g, off, rfl, hlt, hc⟩ := h.at_ hk
  have hx : ∀ j u, (Mg.cells M[k])[j]? = some u → w'.cell? ⟨g, off + k * 6 + j, none⟩ = some u := fun j u hu => keep_cell hb (hc k hk j u hu) hlt
  exact ⟨g, off, rfl, hlt, by simpa using hx 0 _ rfl, hx 1 _ rfl, hx 2 _ rfl, hx 3 _ rfl, hx 4 _ rfl, hx 5 _ rfl⟩
end Go.Proofs.Ytlabpgdimhbocaa
