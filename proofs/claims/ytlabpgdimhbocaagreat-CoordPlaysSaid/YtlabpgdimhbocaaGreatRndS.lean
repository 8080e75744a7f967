/- round.Round: send, Sends: contracts. Conditions: the round as it lies. -/
import Derived.Test.YtlabpgdimhbocaaGreatRnd
namespace Go.Proofs.YtlabpgdimhbocaaGreat
set_option linter.unusedVariables false
set_option linter.unusedSimpArgs false
open Go.ChangeShapes Go.WideShapes Go.ChangeAt Go.RowKit

theorem rsL_C (R : Rs) (m : Int) (v : Value) {k : Nat} (hk : k < 7) : (rsL R m v)[5 + k]? = some (.bool (R.C k)) := by
  unfold rsL
  rw [List.append_assoc, List.getElem?_append_right (by simp)]
  rw [show 5 + k - ([.int .i64 R.n, .int .i64 R.at_, .int .u64 R.id, .int .u64 R.f, .int .i64 R.ph] : List Value).length = k by simp, List.getElem?_append_left (by simpa using hk)]
  simp [hk]
/-- What a phase sends. -/
def kindR (R : Rs) : Int := if R.ph = 2 then 8 else 6
/-- The messages to the first k nodes. -/
def sendTo (R : Rs) (all : Bool) (k : Nat) : List Mg := ((List.range k).filter fun j => all || !R.C j).map fun (j : Nat) => toM R (j : Int) (kindR R)
def sendR (R : Rs) (all : Bool) : List Mg := if R.ph = 3 then [] else sendTo R all R.n.toNat
theorem sendTo_yes {R : Rs} {all : Bool} {k : Nat} (h : (all || !R.C k) = true) : sendTo R all (k + 1) = sendTo R all k ++ [toM R (k : Int) (kindR R)] := by
  unfold sendTo
  rw [List.range_succ, List.filter_append, List.map_append, List.filter_cons, h]
  rfl
theorem sendTo_no {R : Rs} {all : Bool} {k : Nat} (h : (all || !R.C k) = false) : sendTo R all (k + 1) = sendTo R all k := by
  unfold sendTo
  rw [List.range_succ, List.filter_append, List.map_append, List.filter_cons, h]
  simp
theorem sendTo_len (R : Rs) (all : Bool) (k : Nat) : (sendTo R all k).length ≤ k := by
  unfold sendTo
  rw [List.length_map]
  exact Nat.le_trans (List.length_filter_le _ _) (by simp)
theorem wpList_app_msg {ops : Array Oper} {rest : List Oper} {o : Oper} {a : Act} {u : World} {Q : Exit → Act → World → Prop} (hgd : o.guard = none) (s x : Operand)
    (ho : o.op = .call { callee := .builtin .append, args := #[s, x], argTypes := #[25, 25] }) (hty : o.type = 25)
    (base : Nat) (v : Value) (L : List Mg) (hs : a.eval s = v) (hown : OwnL Mg.cells 6 39 base u v L) (A : Option Addr) (c n : Nat) (M : List Mg) (hM : M.length = n) (hx : a.eval x = .slice A n c) (hr : RowAt Mg.cells 6 u A M) (hn : L.length + n ≤ 1000000) (hbase : base ≤ u.heap.size)
    (h : ∀ v' w', OwnL Mg.cells 6 39 base w' v' (L ++ M) → u.grownBy w' v.ownBlock → (v'.ownBlock = v.ownBlock ∨ v'.ownBlock = some u.heap.size) → wpList Tryz.prog ops Q rest (a.put o.dst v') w') : wpList Tryz.prog ops Q (o :: rest) a u := by
  subst hM
  refine wpList_plain hgd fun K hK => ?_
  obtain ⟨v', w', hrun, h2, h3, h4⟩ := app_msg u base v L hown A c M hr (fun e => by
    subst e
    cases M with
    | nil => rfl
    | cons a M => obtain ⟨b, off, e, _⟩ := hr (by simp); cases e) hn hbase
  unfold Oper.wp execOp
  simp only [ho, hty, resolve, invoke, builtin, Sem.run_bind, Sem.run_pure, Result.andThen_ok, List.map_toArray, List.map_cons, List.map_nil, hs, hx, hrun]
  exact hK _ _ (h v' w' h2 h3 h4)
/-- Messages in a row of one's own, their items beside it. -/
structure MsO (base : Nat) (w : World) (v : Value) (N : List Mg) : Prop where
  own : OwnL Mg.cells 6 39 base w v N
  rd : ∀ x ∈ N, x.rd w
  far : ∀ x ∈ N, ∀ a, x.A = some a → x.L ≠ [] → a.block < w.heap.size ∧ v.ownBlock ≠ some a.block
theorem MsO.below {base : Nat} {w w' : World} {v : Value} {N : List Mg} (h : MsO base w v N) (hb : Below w.heap.size w w') : MsO base w' v N :=
  ⟨OwnL.below h.own hb, fun x hx => (h.rd x hx).below hb, fun x hx a ha hn => ⟨Nat.lt_of_lt_of_le (h.far x hx a ha hn).1 hb.size, (h.far x hx a ha hn).2⟩⟩
theorem MsO.snoc {base : Nat} {w u w' : World} {v v' : Value} {N : List Mg} {x : Mg} (h : MsO base w v N) (hb : Below w.heap.size w u) (hx : x.rd u) (hf : ∀ a, x.A = some a → x.L ≠ [] → w.heap.size ≤ a.block) (ho : OwnL Mg.cells 6 39 base w' v' (N ++ [x])) (hg : u.grownBy w' v.ownBlock) (hm : v'.ownBlock = v.ownBlock ∨ v'.ownBlock = some u.heap.size) : MsO base w' v' (N ++ [x]) := by
  have hvb : ∀ g, v.ownBlock = some g → g < w.heap.size := fun g hg => (OwnL.lt h.own g hg).2
  have key : ∀ y ∈ N ++ [x], y.rd u ∧ ∀ a, y.A = some a → y.L ≠ [] → a.block < u.heap.size ∧ v.ownBlock ≠ some a.block := fun y hy => by
    rcases List.mem_append.1 hy with h1 | h1
    · exact ⟨(h.rd y h1).below hb, fun a ha hn => ⟨Nat.lt_of_lt_of_le (h.far y h1 a ha hn).1 hb.size, (h.far y h1 a ha hn).2⟩⟩
    · rw [List.mem_singleton] at h1
      subst h1
      refine ⟨hx, fun a ha hn => ⟨?_, fun e => by have := hvb _ e; have := hf a ha hn; omega⟩⟩
      obtain ⟨b, off, e, hlt, _⟩ := hx.1 hn
      rw [ha] at e
      obtain rfl := Option.some.inj e
      exact hlt
  refine ⟨ho, fun y hy => ⟨(key y hy).1.1.sets (S := fun c => v.ownBlock = some c) ⟨hg.os, hg.tape, hg.output, hg.size, fun i hi hs => hg.block i hi (fun e => hs e.symm)⟩ (fun a ha hn => ((key y hy).2 a ha hn).2), (key y hy).1.2⟩, fun y hy a ha hn => ⟨Nat.lt_of_lt_of_le ((key y hy).2 a ha hn).1 hg.size, fun e => ?_⟩⟩
  rcases hm with e1 | e1
  · exact ((key y hy).2 a ha hn).2 (by rw [← e1]; exact e)
  · rw [e1] at e
    have := Option.some.inj e
    have := ((key y hy).2 a ha hn).1
    omega
end Go.Proofs.YtlabpgdimhbocaaGreat
