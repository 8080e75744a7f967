/- A net of one's own: contracts of net's functions in the form that a law's walk calls; clepsydralaw21.awake. Conditions: the net as it lies. -/
import Derived.Test.YtihhepojhoaacaaPetD
namespace Go.Proofs.Ytihhepojhoaacaa
set_option linter.unusedVariables false
set_option linter.unusedSimpArgs false
open Go.ChangeShapes Go.WideShapes Go.ChangeAt Go.RowKit
variable {Fr : Nat → Prop}

/-- A net that was made behind w0. -/
structure NetO (Fr : Nat → Prop) (w0 w : World) (b : Nat) (rb : Option Nat) (m : Nat) (C : List Mg) (l s : Int) : Prop where
  at_ : NetW Fr w b rb m C l s
  old : w0.heap.size ≤ b
  low : Below w0.heap.size w0 w
theorem NetO.below {w0 w w' : World} {b : Nat} {rb : Option Nat} {m : Nat} {C : List Mg} {l s : Int} (h : NetO Fr w0 w b rb m C l s) (hb : Below w.heap.size w w') : NetO Fr w0 w' b rb m C l s := ⟨h.at_.below hb, h.old, below_step h.low hb⟩
theorem NetO.next {w0 w w' : World} {b : Nat} {rb rb' : Option Nat} {m m' : Nat} {C C' : List Mg} {l s l' s' : Int} (h : NetO Fr w0 w b rb m C l s) (hN : NetW Fr w' b rb' m' C' l' s') (hS : Sets (NBlk b rb) w w') : NetO Fr w0 w' b rb' m' C' l' s' :=
  ⟨hN, h.old, Sets.below h.low hS (fun c hc => Nat.le_trans h.old (h.at_.blk_lt hc).1) h.low.size⟩
/-- A message without items. -/
abbrev mg0 (k id : Int) : Mg := ⟨k, 0, 0, id, 0, none, 0, []⟩
theorem mg0_rd (w : World) (x : Mg) (h : x.A = none) (hL : x.L = []) (hc : x.c = 0) : x.rd w := by
  refine ⟨?_, by rw [hL, hc]; simp, by rw [hc]; simp⟩
  rw [hL]; exact RowAt.nil_
theorem bare_lit {x : Mg} {k f t id n : Int} {L : List It} (h : x.bare = ⟨k, f, t, id, n, none, 0, L⟩) : ∃ A c, x = ⟨k, f, t, id, n, A, c, L⟩ := by
  obtain ⟨k', f', t', id', n', A', c', L'⟩ := x
  unfold Mg.bare at h
  injection h with h1 h2 h3 h4 h5 _ _ h6
  subst h1 h2 h3 h4 h5 h6
  exact ⟨A', c', rfl⟩
theorem nnew_o (n : Int) (w : World) : Calls Try.prog 7 #[.int .i64 n] w fun e w' => ∃ b, e = .returned (.pointer (some ⟨b, 0, none⟩)) ∧ NetO Fr w w' b none (capN n) [] 0 0 :=
  Calls.mono (nnew_any n w) (by rintro e w' ⟨b, rfl, h1, h2, h3⟩; exact ⟨b, rfl, h1, h2, h3⟩)
section
variable {w0 w : World} {b : Nat} {rb : Option Nat} {m : Nat} {C : List Mg} {l s : Int}
theorem send_o (hFr : ∀ g, w.heap.size ≤ g → Fr g) (h : NetO Fr w0 w b rb m C l s) (x : Mg) (hx : x.rd w) (hxb : ∀ a, x.A = some a → x.L ≠ [] → ¬ NBlk b rb a.block) (hk : mokB x = true) (hC : C.length ≤ 100000) (hl : 0 ≤ l ∧ l ≤ 1099511627776) (hs : 0 ≤ s ∧ s ≤ 1099511627776) :
    Calls Try.prog 8 #[.pointer (some ⟨b, 0, none⟩), x.val] w fun e w' => ∃ rb', e = .returned (.bool true) ∧ NetO Fr w0 w' b rb' m (sendC m C x.bare) (l + sendL m C) (s + 1) ∧ Sets (NBlk b rb) w w' ∧ MovedB w rb rb' :=
  Calls.mono (send_ok hFr h.at_ x hx hxb hk hC hl hs) (by rintro e w' ⟨rb', rfl, h1, h2, h3⟩; exact ⟨rb', rfl, h.next h1 h2, h2, h3⟩)
theorem take_o (h : NetO Fr w0 w b rb m C l s) (i : Nat) (hi : i < C.length) :
    Calls Try.prog 10 #[.pointer (some ⟨b, 0, none⟩), .int .i64 i] w fun e w' => ∃ (x : Mg) (rb' : Option Nat), e = .returned (.tuple #[x.val, .bool true]) ∧ x.bare = C[i]'hi ∧ x.rd w' ∧ NetO Fr w0 w' b rb' m (C.eraseIdx i) l s ∧ Sets (NBlk b rb) w w' ∧ MovedB w rb rb' :=
  Calls.mono (take_hit h.at_ i hi) (by rintro e w' ⟨x, rb', rfl, h0, h00, h1, h2, h3⟩; exact ⟨x, rb', rfl, h0, h00, h.next h1 h2, h2, h3⟩)
theorem drop_o (h : NetO Fr w0 w b rb m C l s) (i : Nat) (hi : i < C.length) (hl : 0 ≤ l ∧ l ≤ 1099511627776) :
    Calls Try.prog 14 #[.pointer (some ⟨b, 0, none⟩), .int .i64 i] w fun e w' => ∃ rb', e = .returned (.bool true) ∧ NetO Fr w0 w' b rb' m (C.eraseIdx i) (l + 1) s ∧ Sets (NBlk b rb) w w' ∧ MovedB w rb rb' :=
  Calls.mono (drop_hit h.at_ i hi hl) (by rintro e w' ⟨rb', rfl, h1, h2, h3⟩; exact ⟨rb', rfl, h.next h1 h2, h2, h3⟩)
theorem double_o (hFr : ∀ g, w.heap.size ≤ g → Fr g) (h : NetO Fr w0 w b rb m C l s) (i : Nat) (hi : i < C.length) (hC : C.length ≤ 100000) (hl : 0 ≤ l ∧ l ≤ 1099511627776) (hs : 0 ≤ s ∧ s ≤ 1099511627776) :
    Calls Try.prog 15 #[.pointer (some ⟨b, 0, none⟩), .int .i64 i] w fun e w' => ∃ rb', e = .returned (.bool true) ∧ NetO Fr w0 w' b rb' m (sendC m C (C[i]'hi)) (l + sendL m C) (s + 1) ∧ Sets (NBlk b rb) w w' ∧ MovedB w rb rb' :=
  Calls.mono (double_hit hFr h.at_ i hi hC hl hs) (by rintro e w' ⟨rb', rfl, h1, h2, h3⟩; exact ⟨rb', rfl, h.next h1 h2, h2, h3⟩)
theorem turn_o (h : NetO Fr w0 w b rb m C l s) (i k : Nat) (hi : i < C.length) (hk : k < C.length) :
    Calls Try.prog 16 #[.pointer (some ⟨b, 0, none⟩), .int .i64 i, .int .i64 k] w fun e w' => e = .returned (.bool true) ∧ NetO Fr w0 w' b rb m ((C.set i (C[k]'hk)).set k (C[i]'hi)) l s ∧ Sets (NBlk b rb) w w' :=
  Calls.mono (turn_hit h.at_ i k hi hk) (by rintro e w' ⟨rfl, h1, h2⟩; exact ⟨rfl, h.next h1 h2, h2⟩)
end
set_option maxRecDepth 100000 in
set_option maxHeartbeats 3200000 in
theorem awake21_any (w : World) : Calls Try.prog 12 #[] w fun e w' => e = .returned (.bool true) ∧ Below w.heap.size w w' := by
  go_enter Try.func12, Try.ntmps12
  go_wp2_with fail
  refine (Calls.mono (nnew_o (Fr := fun _ => True) 9 _) ?_); rintro e w1 ⟨b, rfl, hN⟩
  rw [show capN 9 = 9 from rfl] at hN
  have HS := hide (send_o (fun _ _ => trivial) hN (mg0 2 1) (mg0_rd _ _ rfl rfl rfl) (fun a h => by cases h) (by decide) (by simp) (by omega) (by omega))
  clear hN
  go_wp2_with fail
  refine (Calls.mono HS.out ?_); rintro e w2 ⟨r2, rfl, hN, _⟩
  rw [show sendC 9 [] (mg0 2 1).bare = [mg0 2 1] from rfl, show (0 : Int) + sendL 9 [] = 0 from rfl] at hN
  have HS2 := hide (send_o (fun _ _ => trivial) hN (mg0 2 2) (mg0_rd _ _ rfl rfl rfl) (fun a h => by cases h) (by decide) (by simp) (by omega) (by omega))
  clear hN HS
  go_wp2_with fail
  refine (Calls.mono HS2.out ?_); rintro e w3 ⟨r3, rfl, hN, _⟩
  rw [show sendC 9 [mg0 2 1] (mg0 2 2).bare = [mg0 2 1, mg0 2 2] from rfl, show (0 : Int) + sendL 9 [mg0 2 1] = 0 from rfl] at hN
  have HT := hide (turn_o hN 0 1 (by simp) (by simp))
  clear hN HS2
  go_wp2_with fail
  refine (Calls.mono HT.out ?_); rintro e w4 ⟨rfl, hN, _⟩
  have HK := hide (take_o hN 0 (by simp))
  clear hN HT
  go_wp2_with fail
  refine (Calls.mono HK.out ?_); rintro e w5 ⟨x, r5, rfl, hb, _, hN, _⟩
  obtain ⟨A, c, rfl⟩ := bare_lit (show x.bare = ⟨2, 0, 0, 2, 0, none, 0, []⟩ from hb)
  have hba := below_alloc (Below.refl w5.heap.size w5) (.cells #[.int .i64 2, .int .i64 0, .int .i64 0, .int .u64 2, .int .u64 0, .slice A 0 c] 28)
  have hN6 := hN.below hba
  have HL := hide (nlen_any hN6.at_)
  have HE := hide (nsent_any hN6.at_)
  have HB := hide hN6.low
  rw [show (((([mg0 2 1, mg0 2 2].set 0 ([mg0 2 1, mg0 2 2][1])).set 1 ([mg0 2 1, mg0 2 2][0])).eraseIdx 0).length : Int) = 1 from rfl] at HL
  clear hb hN hba hN6 HK
  go_wp2_with fail
  refine (Calls.mono HL.out ?_); rintro e w6 ⟨rfl, rfl⟩
  go_wp2_with fail
  refine (Calls.mono HE.out ?_); rintro e w7 ⟨rfl, rfl⟩
  go_wp2_with fail
  go_ret
  exact ⟨rfl, HB.out⟩
end Go.Proofs.Ytihhepojhoaacaa
