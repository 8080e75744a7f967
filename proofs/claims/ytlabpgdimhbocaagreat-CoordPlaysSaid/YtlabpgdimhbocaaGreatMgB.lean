/- What messages say; rows of messages: append, the document's SameMsgs. Conditions: readable. -/
import Derived.Test.YtlabpgdimhbocaaGreatMsg3
import Derived.Test.YtlabpgdimhbocaaGreatJ
import Derived.BigQuiet
namespace Go.Proofs.YtlabpgdimhbocaaGreat
set_option linter.unusedVariables false
set_option linter.unusedSimpArgs false
open Go.ChangeShapes Go.WideShapes Go.ChangeAt Go.RowKit
/-- What a message says. -/
def Mg.bare (m : Mg) : Mg := { m with A := none, c := 0 }
theorem bare_same (m : Mg) : Mg.same m m.bare := ⟨rfl, rfl, rfl, rfl, rfl, rfl⟩
theorem bare_eq {a b : Mg} (h : Mg.same a b) : a.bare = b.bare := by
  obtain ⟨h1, h2, h3, h4, h5, h6⟩ := h
  unfold Mg.bare
  rw [h1, h2, h3, h4, h5, h6]
theorem app_msg (u : World) (base : Nat) (v : Value) (L : List Mg) (hown : OwnL Mg.cells 6 39 base u v L) (A : Option Addr) (c : Nat) (M : List Mg) (hr : RowAt Mg.cells 6 u A M) (hA : A = none → M = []) (hn : L.length + M.length ≤ 1000000) (hbase : base ≤ u.heap.size) :
    ∃ v' w', (Builtin.append_ #[25, 25] 25 #[v, .slice A M.length c]).run Tryz.prog u = .ok v' w' ∧ OwnL Mg.cells 6 39 base w' v' (L ++ M) ∧ u.grownBy w' v.ownBlock ∧ (v'.ownBlock = v.ownBlock ∨ v'.ownBlock = some u.heap.size) := by
  obtain ⟨i0, hi, hz0, hz1, hz2⟩ := info_parts Tryz.infoMsg
  exact run_append_row (P := Tryz.prog) u base 25 25 39 i0 _ 6 64 Tryz.underlying25 hi hz0 hz1 hz2 rfl (by omega) Mg.cells_len v L hown A c M hr hA (fun m _ => Mg.cells_one m) (by simp only [maxLen]; omega) (by omega) hbase
theorem step_app_msg {ops : Array Oper} {o : Oper} {a : Act} {u : World} {K : Act → World → Prop} {Q : Exit → Act → World → Prop} {E : Prop} (hgd : o.guard = none) (s x : Operand)
    (ho : o.op = .call { callee := .builtin .append, args := #[s, x], argTypes := #[25, 25] }) (hty : o.type = 25)
    (base : Nat) (v : Value) (L : List Mg) (hs : a.eval s = v) (hown : OwnL Mg.cells 6 39 base u v L) (A : Option Addr) (c n : Nat) (M : List Mg) (hM : M.length = n) (hx : a.eval x = .slice A n c) (hr : RowAt Mg.cells 6 u A M) (hn : L.length + n ≤ 1000000) (hbase : base ≤ u.heap.size)
    (h : ∀ v' w', OwnL Mg.cells 6 39 base w' v' (L ++ M) → u.grownBy w' v.ownBlock → (v'.ownBlock = v.ownBlock ∨ v'.ownBlock = some u.heap.size) → K (a.put o.dst v') w') : if Region.wanted o (yielded ops a.tmps) = true then Oper.wp Tryz.prog o a u K Q else E := by
  subst hM
  have hw : Region.wanted o (yielded ops a.tmps) = true := by simp [Region.wanted, hgd]
  rw [if_pos hw]
  obtain ⟨v', w', hrun, h2, h3, h4⟩ := app_msg u base v L hown A c M hr (fun e => by
    subst e
    cases M with
    | nil => rfl
    | cons a M => obtain ⟨b, off, e, _⟩ := hr (by simp); cases e) hn hbase
  unfold Oper.wp execOp
  simp only [ho, hty, resolve, invoke, builtin, Sem.run_bind, Sem.run_pure, Result.andThen_ok, List.map_toArray, List.map_cons, List.map_nil, hs, hx, hrun]
  exact h v' w' h2 h3 h4
/-- A message without items. -/
abbrev mg0 (k id : Int) : Mg := ⟨k, 0, 0, id, 0, none, 0, []⟩
theorem mg0_rd (w : World) (x : Mg) (h : x.A = none) (hL : x.L = []) (hc : x.c = 0) : x.rd w := by
  refine ⟨?_, by rw [hL, hc]; simp, by rw [hc]; simp⟩
  rw [hL]; exact RowAt.nil_
theorem bare_lit {x : Mg} {k f t id n : Int} {L : List It} (h : x.bare = ⟨k, f, t, id, n, none, 0, L⟩) : ∃ A c, x = ⟨k, f, t, id, n, A, c, L⟩ := by
  obtain ⟨k', f', t', id', n', A', c', L'⟩ := x
  unfold Mg.bare at h
  injection h with h1 h2 h3 h4 h5 _ _ h6
  subst h1 h2 h3 h4 h5 h6
  exact ⟨A', c', rfl⟩
theorem mg_row {w w' : World} {A : Option Addr} {M : List Mg} (h : RowAt Mg.cells 6 w A M) (hb : Below w.heap.size w w') {k : Nat} (hk : k < M.length) :
    ∃ g off, A = some ⟨g, off, none⟩ ∧ g < w.heap.size ∧ w'.cell? ⟨g, off + k * 6, none⟩ = some (.int .i64 (M[k]).k) ∧ w'.cell? ⟨g, off + k * 6 + 1, none⟩ = some (.int .i64 (M[k]).f) ∧ w'.cell? ⟨g, off + k * 6 + 2, none⟩ = some (.int .i64 (M[k]).t) ∧
      w'.cell? ⟨g, off + k * 6 + 3, none⟩ = some (.int .u64 (M[k]).id) ∧ w'.cell? ⟨g, off + k * 6 + 4, none⟩ = some (.int .u64 (M[k]).n) ∧ w'.cell? ⟨g, off + k * 6 + 5, none⟩ = some (.slice (M[k]).A (M[k]).L.length (M[k]).c) := by
  obtain ⟨g, off, rfl, hlt, hc⟩ := h.at_ hk
  have hx : ∀ j u, (Mg.cells M[k])[j]? = some u → w'.cell? ⟨g, off + k * 6 + j, none⟩ = some u := fun j u hu => keep_cell hb (hc k hk j u hu) hlt
  exact ⟨g, off, rfl, hlt, by simpa using hx 0 _ rfl, hx 1 _ rfl, hx 2 _ rfl, hx 3 _ rfl, hx 4 _ rfl, hx 5 _ rfl⟩
set_option maxRecDepth 100000 in
set_option maxHeartbeats 3200000 in
theorem samems_eq (A B : Option Addr) (c d : Nat) (M N : List Mg) (w : World) (hA : RowAt Mg.cells 6 w A M) (hB : RowAt Mg.cells 6 w B N) (hM : ∀ x ∈ M, x.rd w) (hN : ∀ x ∈ N, x.rd w) (he : M.map Mg.bare = N.map Mg.bare) (hl : M.length ≤ 1000000) (hi : ∀ x ∈ M, x.L.length ≤ 1000000) :
    Calls Tryz.prog 10 #[.slice A M.length c, .slice B N.length d] w fun e w' => e = .returned (.bool true) ∧ Below w.heap.size w w' := by
  have hlen : N.length = M.length := by have := congrArg List.length he; simpa using this.symm
  have HA := hide hA
  have HB := hide hB
  have HM := hide hM
  have HN := hide hN
  have HI := hide hi
  have HE : Hid (∀ (k : Nat) (h1 : k < M.length) (h2 : k < N.length), Mg.same M[k] N[k]) := hide (fun k h1 h2 => by
    have h3 : (M.map Mg.bare)[k]'(by simpa using h1) = (N.map Mg.bare)[k]'(by simpa using h2) := by simp only [he]
    simp only [List.getElem_map] at h3
    exact (bare_same _).trans (by rw [h3]; exact (bare_same _).symm))
  obtain ⟨n, hn⟩ : ∃ n, M.length = n := ⟨_, rfl⟩
  have HLN := hide hn
  have HLM := hide (hlen.trans hn)
  rw [hlen, hn]
  rw [hn] at hl
  clear hA hB hM hN he hi hlen hn
  have hnn : ((n : Int) != (n : Int)) = false := by simp
  go_enter Tryz.func10, Tryz.ntmps10
  go_wp2_with fail
  go_loopw [5] (fun i wr => ∃ k : Nat, i = .int .i64 k ∧ k ≤ n ∧ Below w.heap.size w wr) (fun i _ => n - (intOf i).toNat)
  case atStart => exact ⟨0, rfl, by omega, Below.refl _ _⟩
  case round =>
    obtain ⟨k, rfl, hk, hb⟩ := hrel
    obtain ⟨wq, rfl⟩ : ∃ wq, wq = wr := ⟨_, rfl⟩
    have HBQ := hide hb
    clear hb
    by_cases hkn : k < n
    · have hkI : (k : Int) < (n : Int) := by omega
      have hk0 : (0 : Int) ≤ (k : Int) := by omega
      have h1 : k < M.length := by rw [HLN.out]; exact hkn
      have h2 : k < N.length := by rw [HLM.out]; exact hkn
      obtain ⟨ga, oa, rfl, hga, a0, a1, a2, a3, a4, a5⟩ := mg_row HA.out HBQ.out h1
      obtain ⟨gb, ob, rfl, hgb, b0, b1, b2, b3, b4, b5⟩ := mg_row HB.out HBQ.out h2
      have hs := HE.out k h1 h2
      have hrm := HM.out M[k] (List.getElem_mem _)
      have hrn := HN.out N[k] (List.getElem_mem _)
      have hil := HI.out M[k] (List.getElem_mem _)
      have hga2 : ga < wq.heap.size := Nat.lt_of_lt_of_le hga HBQ.out.size
      have hgb2 : gb < wq.heap.size := Nat.lt_of_lt_of_le hgb HBQ.out.size
      generalize M[k] = x at *
      generalize N[k] = y at *
      have HS : Hid (∀ W : World, Below wq.heap.size wq W → Calls Tryz.prog 21 #[x.val, y.val] W fun e w' => e = .returned (.bool true) ∧ Below W.heap.size W w') := hide (fun W hW => by
        have h := samem_any x y W (hrm.1.below (below_step HBQ.out hW)) (hrn.1.below (below_step HBQ.out hW)) (by omega) (by rw [← hs.2.2.2.2.2]; omega)
        rw [sameMB_iff.2 hs] at h
        exact h)
      have ra0 := fun s : Near wq => s.cell a0 hga2
      have ra1 := fun s : Near wq => s.cell a1 hga2
      have ra2 := fun s : Near wq => s.cell a2 hga2
      have ra3 := fun s : Near wq => s.cell a3 hga2
      have ra4 := fun s : Near wq => s.cell a4 hga2
      have ra5 := fun s : Near wq => s.cell a5 hga2
      have rb0 := fun s : Near wq => s.cell b0 hgb2
      have rb1 := fun s : Near wq => s.cell b1 hgb2
      have rb2 := fun s : Near wq => s.cell b2 hgb2
      have rb3 := fun s : Near wq => s.cell b3 hgb2
      have rb4 := fun s : Near wq => s.cell b4 hgb2
      have rb5 := fun s : Near wq => s.cell b5 hgb2
      clear hs hrm hrn hil h1 h2
      go_wp2_with fail
      refine wp_region_near (by kernel_rfl) (by kernel_rfl) ?_
      repeat (go_big_quiet_step ((first | (go_at_call 21; exact near_of (HS.out _ (Near.is _))))))
      refine wpQuiet_nil ?_
      intro _ hw'
      obtain ⟨s1, rfl⟩ := hw'
      clear ra0 ra1 ra2 ra3 ra4 ra5 rb0 rb1 rb2 rb3 rb4 rb5 a0 a1 a2 a3 a4 a5 b0 b1 b2 b3 b4 b5
      go_wp2_with fail
      go_roundw
      case rel => exact ⟨k + 1, by go_num, by omega, below_step HBQ.out s1.is⟩
      case measure => (simp [intOf] <;> omega)
    · obtain rfl : k = n := by omega
      have hkI : ¬ (k : Int) < (k : Int) := by omega
      go_wp2_with fail
      go_ret
      exact ⟨rfl, HBQ.out⟩
end Go.Proofs.YtlabpgdimhbocaaGreat
