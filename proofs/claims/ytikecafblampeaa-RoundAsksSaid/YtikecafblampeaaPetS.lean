/- net.Net: Take in vain, Drop, Send: contracts. Conditions: the net as it lies. -/
import Derived.Test.YtikecafblampeaaPetT
namespace Go.Proofs.Ytikecafblampeaa
set_option linter.unusedVariables false
set_option linter.unusedSimpArgs false
open Go.ChangeShapes Go.WideShapes Go.ChangeAt Go.RowKit
variable {Fr : Nat → Prop}

theorem ckd {w : World} {g o : Nat} {v : Value} {w' : World} (hg : g < w.heap.size) (h : w.cell? ⟨g, o, none⟩ = some v) (hb : Below w.heap.size w.drew w') : w'.cell? ⟨g, o, none⟩ = some v := (hb.cell (p := ⟨g, o, none⟩) hg).trans h
theorem hasB_no {n : Nat} {i : Int} (h : ¬ (0 ≤ i ∧ i < (n : Int))) : hasB n i = false := by
  unfold hasB
  by_cases h0 : 0 ≤ i
  · rw [decide_eq_false (fun h1 => h ⟨h0, h1⟩)]; simp
  · rw [decide_eq_false h0]; rfl
theorem app_msg (u : World) (base : Nat) (v : Value) (L : List Mg) (hown : OwnL Mg.cells 6 30 base u v L) (A : Option Addr) (c : Nat) (M : List Mg) (hr : RowAt Mg.cells 6 u A M) (hA : A = none → M = []) (hn : L.length + M.length ≤ 1000000) (hbase : base ≤ u.heap.size) :
    ∃ v' w', (Builtin.append_ #[34, 34] 34 #[v, .slice A M.length c]).run Try.prog u = .ok v' w' ∧ OwnL Mg.cells 6 30 base w' v' (L ++ M) ∧ u.grownBy w' v.ownBlock ∧ (v'.ownBlock = v.ownBlock ∨ v'.ownBlock = some u.heap.size) := by
  obtain ⟨i0, hi, hz0, hz1, hz2⟩ := info_parts Try.infoMsg
  exact run_append_row (P := Try.prog) u base 34 34 30 i0 _ 6 64 Try.underlying34 hi hz0 hz1 hz2 rfl (by omega) Mg.cells_len v L hown A c M hr hA (fun m _ => Mg.cells_one m) (by simp only [maxLen]; omega) (by omega) hbase
theorem step_app_msg {ops : Array Oper} {o : Oper} {a : Act} {u : World} {K : Act → World → Prop} {Q : Exit → Act → World → Prop} {E : Prop} (hgd : o.guard = none) (s x : Operand)
    (ho : o.op = .call { callee := .builtin .append, args := #[s, x], argTypes := #[34, 34] }) (hty : o.type = 34)
    (base : Nat) (v : Value) (L : List Mg) (hs : a.eval s = v) (hown : OwnL Mg.cells 6 30 base u v L) (A : Option Addr) (c n : Nat) (M : List Mg) (hM : M.length = n) (hx : a.eval x = .slice A n c) (hr : RowAt Mg.cells 6 u A M) (hn : L.length + n ≤ 1000000) (hbase : base ≤ u.heap.size)
    (h : ∀ v' w', OwnL Mg.cells 6 30 base w' v' (L ++ M) → u.grownBy w' v.ownBlock → (v'.ownBlock = v.ownBlock ∨ v'.ownBlock = some u.heap.size) → K (a.put o.dst v') w') : if Region.wanted o (yielded ops a.tmps) = true then Oper.wp Try.prog o a u K Q else E := by
  subst hM
  have hw : Region.wanted o (yielded ops a.tmps) = true := by simp [Region.wanted, hgd]
  rw [if_pos hw]
  obtain ⟨v', w', hrun, h2, h3, h4⟩ := app_msg u base v L hown A c M hr (fun e => by
    subst e
    cases M with
    | nil => rfl
    | cons a M => obtain ⟨b, off, e, _⟩ := hr (by simp); cases e) hn hbase
  unfold Oper.wp execOp
  simp only [ho, hty, resolve, invoke, builtin, Sem.run_bind, Sem.run_pure, Result.andThen_ok, List.map_toArray, List.map_cons, List.map_nil, hs, hx, hrun]
  exact h v' w' h2 h3 h4
/-- What is under way behind one more; how many are lost then. -/
def sendC (m : Nat) (C : List Mg) (x : Mg) : List Mg := if m < C.length + 1 then (C ++ [x]).drop 1 else C ++ [x]
def sendL (m : Nat) (C : List Mg) : Int := if m < C.length + 1 then 1 else 0
end Go.Proofs.Ytikecafblampeaa
