/- XBits, XNest, XDecMg, XMsg2, XRndF, XRcN, XRcK, XEqSl, XRcP, XRcZ in one text. Conditions: as typed. -/
import Derived.Test.YtikecafblampeaaLib
import Derived.Test.YtikecafblampeaaMsg
import Derived.Test.YtikecafblampeaaApart
import Derived.Test.YtikecafblampeaaRndC
import Derived.Test.YtikecafblampeaaRcH
import Derived.Test.YtikecafblampeaaREq
import Derived.Test.YtikecafblampeaaSl
namespace Go.Proofs.Ytikecafblampeaa
set_option linter.unusedVariables false
set_option linter.unusedSimpArgs false
open Go.RowKit

theorem and_mask_i64 (a : Int) (k : Nat) (m : Int) (hk : k < 63) (hm : m = 2 ^ k - 1) : bits .and .i64 a m = a % 2 ^ k := by
  have h2 : ((2 : Nat) ^ k) < 2 ^ 63 := Nat.pow_lt_pow_right (by omega) hk
  have h2' : (2 : Nat) ^ k ∣ 2 ^ 64 := Nat.pow_dvd_pow 2 (by omega)
  have hpos : 0 < (2 : Nat) ^ k := Nat.pow_pos (by omega)
  have ec : ((2 ^ k : Nat) : Int) = (2 : Int) ^ k := by simp
  have hm' : m = ((2 ^ k - 1 : Nat) : Int) := by omega
  show IntKind.i64.wrap ((BitVec.ofInt 64 a &&& BitVec.ofInt 64 m).toNat : Int) = _
  have e1 : (BitVec.ofInt 64 m).toNat = 2 ^ k - 1 := by
    rw [hm', BitVec.ofInt_natCast, BitVec.toNat_ofNat]; exact Nat.mod_eq_of_lt (by omega)
  rw [BitVec.toNat_and, e1, Nat.and_two_pow_sub_one_eq_mod, BitVec.toNat_ofInt]
  have e2 : (((a % ((2 ^ 64 : Nat) : Int)).toNat % 2 ^ k : Nat) : Int) = a % 2 ^ k := by
    have hnn : 0 ≤ a % ((2 ^ 64 : Nat) : Int) := Int.emod_nonneg _ (by decide)
    rw [Int.natCast_emod, Int.toNat_of_nonneg hnn, ← ec]
    exact Int.emod_emod_of_dvd a (by exact_mod_cast h2')
  rw [e2, IntKind.wrap_i64]
  have h3 : 0 ≤ a % (2 : Int) ^ k := Int.emod_nonneg _ (by omega)
  have h4 : a % (2 : Int) ^ k < 2 ^ k := Int.emod_lt_of_pos _ (by omega)
  omega

/-- How many of the first n bits are set. -/
def cnt (x : Int) : Nat → Int
  | 0 => 0
  | n + 1 => cnt x n + x / 2 ^ n % 2
theorem cnt_bd (x : Int) : ∀ n : Nat, 0 ≤ cnt x n ∧ cnt x n ≤ n
  | 0 => by simp [cnt]
  | n + 1 => by
    have := cnt_bd x n
    simp only [cnt]
    omega
theorem cnt_two (x y : Int) : ∀ n : Nat, (∀ i < n, ¬ (x / 2 ^ i % 2 = 1 ∧ y / 2 ^ i % 2 = 1)) → cnt x n + cnt y n ≤ n
  | 0, _ => by simp [cnt]
  | n + 1, h => by
    have h1 := cnt_two x y n (fun i hi => h i (by omega))
    have h2 := h n (by omega)
    simp only [cnt]
    omega
theorem and_zero_bits {a b : Int} (ha : 0 ≤ a) (hb : 0 ≤ b) (ha' : a < 18446744073709551616) (hb' : b < 18446744073709551616) (h : bits .and .u64 a b = 0) (i : Nat) : ¬ (a / 2 ^ i % 2 = 1 ∧ b / 2 ^ i % 2 = 1) := by
  rw [u64_and a b ha ha' hb hb'] at h
  have h0 : a.toNat &&& b.toNat = 0 := by omega
  rintro ⟨h1, h2⟩
  have key : ∀ x : Int, 0 ≤ x → x / 2 ^ i % 2 = 1 → x.toNat.testBit i = true := by
    intro x hx h3
    rw [Nat.testBit_eq_decide_div_mod_eq]
    have ec : ((2 ^ i : Nat) : Int) = (2 : Int) ^ i := by simp
    have e : ((x.toNat / 2 ^ i % 2 : Nat) : Int) = x / 2 ^ i % 2 := by
      rw [Int.natCast_emod, Int.natCast_ediv, Int.toNat_of_nonneg hx, ec]; rfl
    have : x.toNat / 2 ^ i % 2 = 1 := by omega
    simp [this]
  have := congrArg (fun n => n.testBit i) h0
  simp [Nat.testBit_and, key a ha h1, key b hb h2] at this
end Go.Proofs.Ytikecafblampeaa
namespace Go.Proofs.Ytikecafblampeaa
set_option linter.unusedVariables false
set_option linter.unusedSimpArgs false
open Go.ChangeShapes Go.WideShapes Go.ChangeAt Go.RowKit

/-- A slice value with what it reads as. -/
structure Sv (β : Type) where
  A : Option Addr
  c : Nat
  L : List β
abbrev Sv.val {β : Type} (s : Sv β) : Value := .slice s.A s.L.length s.c
structure Sv.good {β : Type} (cells : β → List Value) (sz : Nat) (ok : β → Prop) (w : World) (s : Sv β) : Prop where
  lc : s.L.length ≤ s.c
  cm : s.c ≤ maxLen
  row : RowAt cells sz w s.A s.L
  ok : ∀ a ∈ s.L, ok a
theorem Sv.good.below {β : Type} {cells : β → List Value} {sz : Nat} {ok : β → Prop} {w w' : World} {s : Sv β} (h : Sv.good cells sz ok w s) (hb : Below w.heap.size w w') : Sv.good cells sz ok w' s := { h with row := h.row.below hb }

section
variable {H : Type} {enc : TypeId × Value → H} {P : Program} {w : World} {base : Nat} {held : Bool}
theorem dec_slice {β : Type} {cells : β → List Value} {ok : β → Prop} {sz : Nat} {t e : TypeId} (ht : P.underlying t = some (.slice e)) (hC : P.cellsOf e = sz) (hs : 0 < sz)
    (dec : ∀ n cs x, DataW.trod enc P w base (fun _ => true) held n e cs = some x → ∃ a : β, ok a ∧ cs = cells a)
    (fuel : Nat) (cs : List Value) (x : DataW H × List MemPlace) (hf : DataW.trod enc P w base (fun _ => true) held fuel t cs = some x) :
    ∃ s : Sv β, Sv.good cells sz ok w s ∧ cs = [s.val] := by
  rcases Go.Deep.open_slice ht hf with ⟨hcs, _⟩ | ⟨a, n, c, m, n', D, Pl, hcs, _, hl, hm, hmm, _, hi⟩
  · exact ⟨⟨none, 0, []⟩, ⟨Nat.le_refl _, by simp, RowAt.nil_, by simp⟩, hcs⟩
  · have hmc : m = c := by simpa using hmm
    have hx : ∀ i, i < n → ∃ x : β, ok x ∧ w.cells? base (a.add (i * sz)) sz = some (cells x) := by
      intro i hin
      obtain ⟨cs', hc, htr⟩ := hi i (by omega)
      obtain ⟨x, hx, rfl⟩ := dec _ _ _ htr
      rw [hC] at hc
      exact ⟨x, hx, hc⟩
    let L : List β := (List.range n).attach.map fun i => (hx i.1 (by simpa using i.2)).choose
    have hL : L.length = n := by simp [L]
    have hLk : ∀ k (hk : k < L.length), ok L[k] ∧ w.cells? base (a.add (k * sz)) sz = some (cells L[k]) := by
      intro k hk
      have hk' : k < n := by omega
      have e : L[k] = (hx k hk').choose := by simp [L]
      rw [e]
      exact (hx k hk').choose_spec
    refine ⟨⟨some a, c, L⟩, ⟨by show L.length ≤ c; omega, by show c ≤ maxLen; omega, ?_, ?_⟩, by rw [hcs]; show [_] = [Value.slice (some a) L.length c]; rw [hL]⟩
    · intro hne
      have h0 : 0 < L.length := List.length_pos_iff.2 hne
      have hz := cells?_row (hLk 0 h0).2 hs
      obtain ⟨b, off, spot⟩ := a
      have hspot : spot = none := by simpa [Addr.add] using hz.1
      subst hspot
      refine ⟨b, off, rfl, by simpa [Addr.add] using hz.2.1, ?_⟩
      intro k hk j u hu
      have := (cells?_row (hLk k hk).2 hs).2.2 j u hu
      have e2 : (Addr.add ⟨b, off, none⟩ (k * sz)) = ⟨b, off + k * sz, none⟩ := by
        unfold Addr.add
        by_cases hj : k * sz = 0 <;> simp [hj]
      rw [e2] at this
      exact this
    · intro x hx'
      obtain ⟨k, hk, rfl⟩ := List.getElem_of_mem hx'
      exact (hLk k hk).1
end
end Go.Proofs.Ytikecafblampeaa
namespace Go.Proofs.Ytikecafblampeaa
set_option linter.unusedVariables false
set_option linter.unusedSimpArgs false
open Go.ChangeShapes Go.WideShapes Go.ChangeAt Go.RowKit

/-- A message that came in. -/
structure Mg.good (w : World) (m : Mg) : Prop where
  rd : m.rd w
  its : ∀ x ∈ m.L, x.wf
  bk : -9223372036854775808 ≤ m.k ∧ m.k ≤ 9223372036854775807
  bf : -9223372036854775808 ≤ m.f ∧ m.f ≤ 9223372036854775807
  bt : -9223372036854775808 ≤ m.t ∧ m.t ≤ 9223372036854775807
  bi : 0 ≤ m.id ∧ m.id ≤ 18446744073709551615
  bn : 0 ≤ m.n ∧ m.n ≤ 18446744073709551615
/-- One call of a script. -/
structure Op9 where
  kind : Int
  i : Int
  k : Int
  m : Mg
def Op9.cells (o : Op9) : List Value := .int .i64 o.kind :: .int .i64 o.i :: .int .i64 o.k :: o.m.cells
structure Op9.good (w : World) (o : Op9) : Prop where
  m : o.m.good w
  bk : -9223372036854775808 ≤ o.kind ∧ o.kind ≤ 9223372036854775807
  bi : -9223372036854775808 ≤ o.i ∧ o.i ≤ 9223372036854775807
  bj : -9223372036854775808 ≤ o.k ∧ o.k ≤ 9223372036854775807
section
variable {H : Type} {enc : TypeId × Value → H} {P : Program} {w : World} {base : Nat} {held : Bool}
theorem dec_msg {t : TypeId} {f0 f1 f2 f3 f4 f5 : Field} (hs : P.underlying t = some (.struct #[f0, f1, f2, f3, f4, f5])) (hone : Go.Deep.oneCellFields P #[f0, f1, f2, f3, f4, f5] = true) (hC : P.cellsOf t = 6)
    (h0 : P.underlying f0.type = some (.int .i64)) (h1 : P.underlying f1.type = some (.int .i64)) (h2 : P.underlying f2.type = some (.int .i64)) (h3 : P.underlying f3.type = some (.int .u64)) (h4 : P.underlying f4.type = some (.int .u64))
    (h5 : ∀ n cs x, DataW.trod enc P w base (fun _ => true) held n f5.type cs = some x → ∃ s : Sv It, Sv.good It.cells 5 It.wf w s ∧ cs = [s.val])
    (n : Nat) (cs : List Value) (x : DataW H × List MemPlace) (h : DataW.trod enc P w base (fun _ => true) held n t cs = some x) : ∃ a : Mg, a.good w ∧ cs = a.cells := by
  obtain ⟨hl, hf⟩ := dec_fields hs hone (by simpa using hC) h
  obtain ⟨c0, m0, y0, e0, t0⟩ := hf 0 f0 rfl
  obtain ⟨c1, m1, y1, e1, t1⟩ := hf 1 f1 rfl
  obtain ⟨c2, m2, y2, e2, t2⟩ := hf 2 f2 rfl
  obtain ⟨c3, m3, y3, e3, t3⟩ := hf 3 f3 rfl
  obtain ⟨c4, m4, y4, e4, t4⟩ := hf 4 f4 rfl
  obtain ⟨c5, m5, y5, e5, t5⟩ := hf 5 f5 rfl
  obtain ⟨a0, r0, w0⟩ := dec_int h0 _ _ _ t0
  obtain ⟨a1, r1, w1⟩ := dec_int h1 _ _ _ t1
  obtain ⟨a2, r2, w2⟩ := dec_int h2 _ _ _ t2
  obtain ⟨a3, r3, w3⟩ := dec_int h3 _ _ _ t3
  obtain ⟨a4, r4, w4⟩ := dec_int h4 _ _ _ t4
  obtain ⟨s, hsg, w5⟩ := h5 _ _ _ t5
  refine ⟨⟨a0, a1, a2, a3, a4, s.A, s.c, s.L⟩, ⟨⟨hsg.row, hsg.lc, hsg.cm⟩, hsg.ok, bounds_i64 r0, bounds_i64 r1, bounds_i64 r2, bounds_u64 r3, bounds_u64 r4⟩, ?_⟩
  match cs, hl with
  | [d0, d1, d2, d3, d4, d5], _ =>
    simp at e0 e1 e2 e3 e4 e5 w0 w1 w2 w3 w4 w5
    subst e0 e1 e2 e3 e4 e5
    simp [Mg.cells, w0, w1, w2, w3, w4, w5]
theorem dec_op {t : TypeId} {f0 f1 f2 f3 : Field} (hs : P.underlying t = some (.struct #[f0, f1, f2, f3])) (hC : P.cellsOf t = 9)
    (o0 : f0.offset = 0 ∧ P.cellsOf f0.type = 1) (o1 : f1.offset = 1 ∧ P.cellsOf f1.type = 1) (o2 : f2.offset = 2 ∧ P.cellsOf f2.type = 1) (o3 : f3.offset = 3 ∧ P.cellsOf f3.type = 6)
    (h0 : P.underlying f0.type = some (.int .i64)) (h1 : P.underlying f1.type = some (.int .i64)) (h2 : P.underlying f2.type = some (.int .i64))
    (h3 : ∀ n cs x, DataW.trod enc P w base (fun _ => true) held n f3.type cs = some x → ∃ a : Mg, a.good w ∧ cs = a.cells)
    (n : Nat) (cs : List Value) (x : DataW H × List MemPlace) (h : DataW.trod enc P w base (fun _ => true) held n t cs = some x) : ∃ a : Op9, a.good w ∧ cs = a.cells := by
  obtain ⟨xs, m, _, _, hl, hxs, hf⟩ := DataW.trod_struct hs h
  rw [hC] at hl
  match cs, hl with
  | [d0, d1, d2, d3, d4, d5, d6, d7, d8], _ =>
    have t0 := hf 0 f0 rfl
    have t1 := hf 1 f1 rfl
    have t2 := hf 2 f2 rfl
    have t3 := hf 3 f3 rfl
    rw [o0.1, o0.2] at t0
    rw [o1.1, o1.2] at t1
    rw [o2.1, o2.2] at t2
    rw [o3.1, o3.2] at t3
    have hx : xs.length = 4 := hxs
    obtain ⟨a0, r0, w0⟩ := dec_int h0 _ _ _ (t0.trans (List.getElem?_eq_getElem (by omega)))
    obtain ⟨a1, r1, w1⟩ := dec_int h1 _ _ _ (t1.trans (List.getElem?_eq_getElem (by omega)))
    obtain ⟨a2, r2, w2⟩ := dec_int h2 _ _ _ (t2.trans (List.getElem?_eq_getElem (by omega)))
    obtain ⟨mm, hm, w3⟩ := h3 _ _ _ (t3.trans (List.getElem?_eq_getElem (by omega)))
    refine ⟨⟨a0, a1, a2, mm⟩, ⟨hm, bounds_i64 r0, bounds_i64 r1, bounds_i64 r2⟩, ?_⟩
    simp only [List.drop_zero, List.drop_succ_cons, List.take_succ_cons, List.take_zero, List.cons.injEq, and_true] at w0 w1 w2 w3
    subst w0 w1 w2
    unfold Op9.cells
    rw [← w3]
end
end Go.Proofs.Ytikecafblampeaa
namespace Go.Proofs.Ytikecafblampeaa
set_option linter.unusedVariables false
set_option linter.unusedSimpArgs false
open Go.ChangeShapes Go.WideShapes Go.ChangeAt Go.RowKit

def mayE (g : Bool) : Int := if g then 0 else 1
set_option maxRecDepth 100000 in
set_option maxHeartbeats 1600000 in
theorem may_any (A : Option Addr) (c : Nat) (L : List It) (w : World) (hl : L.length ≤ 2000) (hL : ItemsAt w A L) :
    Calls Try.prog 34 #[.slice A L.length c] w fun e w' => e = .returned (.int .i64 (mayE (L.all goodB))) ∧ Below w.heap.size w w' := by
  have hlI : ¬ (2000 : Int) < (L.length : Int) := by omega
  have HL := hide hL
  obtain ⟨E, hE⟩ : ∃ E, mayE (L.all goodB) = E := ⟨_, rfl⟩
  have HE := hide hE
  rw [hE]
  clear hL hE
  go_enter Try.func34, Try.ntmps34
  go_wp2_with fail
  go_loopw [3] (fun i wr => ∃ k : Nat, i = .int .i64 k ∧ k ≤ L.length ∧ (∀ j (hj : j < L.length), j < k → goodB L[j] = true) ∧ Below w.heap.size w wr) (fun i _ => L.length - (intOf i).toNat)
  case atStart => exact ⟨0, rfl, by omega, fun j _ h => by omega, Below.refl _ _⟩
  case round =>
    obtain ⟨k, rfl, hk, hall, hb⟩ := hrel
    have HALL := hide hall
    have HB := hide hb
    clear hall hb
    by_cases hlt : k < L.length
    · have hltI : (k : Int) < (L.length : Int) := by omega
      have hk0 : (0 : Int) ≤ (k : Int) := by omega
      obtain ⟨bl, off, rfl, hbb, y0, y1, y2, y3, y4⟩ := ItemsAt.item HL.out HB.out hlt
      have HG := hide (fun W => rgood_any L[k] W)
      have HN : Hid (goodB L[k] = true → ∀ j (hj : j < L.length), j < k + 1 → goodB L[j] = true) := hide (fun h j hj hjk => by
        by_cases e : j = k
        · subst e; exact h
        · exact HALL.out j hj (by omega))
      have HF : Hid (goodB L[k] = false → L.all goodB = false) := hide (fun h => by
        rw [List.all_eq_false]
        exact ⟨L[k], List.getElem_mem _, by rw [h]; simp⟩)
      generalize L[k] = y at *
      cases hg : goodB y with
      | true =>
        rw [hg] at HG HN
        go_wp2_with fail
        refine (Calls.mono (HG.out _) ?_); rintro e w1 ⟨rfl, hb⟩
        have HB1 := hide (below_step HB.out hb)
        clear hb hg
        go_wp2_with fail
        go_roundw
        case rel => exact ⟨k + 1, by go_num, by omega, HN.out trivial, HB1.out⟩
        case measure => (simp [intOf] <;> omega)
      | false =>
        have HV := hide (HF.out hg)
        rw [hg] at HG
        go_wp2_with fail
        refine (Calls.mono (HG.out _) ?_); rintro e w1 ⟨rfl, hb⟩
        have HB1 := hide (below_step HB.out hb)
        clear hb hg
        go_wp2_with fail
        go_ret
        exact ⟨by rw [← HE.out, HV.out]; rfl, HB1.out⟩
    · obtain rfl : k = L.length := by omega
      have hltI : ¬ (L.length : Int) < (L.length : Int) := by omega
      have HV : Hid (L.all goodB = true) := hide (by
        rw [List.all_eq_true]
        intro x hx
        obtain ⟨j, hj, rfl⟩ := List.mem_iff_getElem.1 hx
        exact HALL.out j hj hj)
      go_wp2_with fail
      go_ret
      exact ⟨by rw [← HE.out, HV.out]; rfl, HB.out⟩
theorem msg_row {w : World} {g : Nat} {m : Mg} {t : TypeId} {fr : Nat × Nat} (h : w.heap[g]? = some (.cells #[.int .i64 m.k, .int .i64 m.f, .int .i64 m.t, .int .u64 m.id, .int .u64 m.n, .slice m.A m.L.length m.c] t fr)) :
    w.cell? ⟨g, 0, none⟩ = some (.int .i64 m.k) ∧ w.cell? ⟨g, 1, none⟩ = some (.int .i64 m.f) ∧ w.cell? ⟨g, 2, none⟩ = some (.int .i64 m.t) ∧ w.cell? ⟨g, 3, none⟩ = some (.int .u64 m.id) ∧ w.cell? ⟨g, 4, none⟩ = some (.int .u64 m.n) ∧ w.cell? ⟨g, 5, none⟩ = some (.slice m.A m.L.length m.c) := six_cells h
set_option maxRecDepth 100000 in
set_option maxHeartbeats 6400000 in
theorem rmok_any (m : Mg) (w : World) (hI : ItemsAt w m.A m.L) :
    Calls Try.prog 16 #[m.val] w fun e w' => e = .returned (.bool (mokB m)) ∧ Below w.heap.size w w' := by
  obtain ⟨k, f, t, id, n, A, c, L⟩ := m
  simp only at hI
  have hb := below_alloc (Below.refl w.heap.size w) (.cells #[.int .i64 k, .int .i64 f, .int .i64 t, .int .u64 id, .int .u64 n, .slice A L.length c] 30)
  have HMAY0 := hide (fun h => may_any A c L _ h (hI.below hb))
  have HB := hide hb
  clear hI hb
  show Calls Try.prog 16 #[.agg #[.int .i64 k, .int .i64 f, .int .i64 t, .int .u64 id, .int .u64 n, .slice A L.length c]] w _
  obtain ⟨l, hll⟩ : ∃ l, L.length = l := ⟨_, rfl⟩
  have HLL := hide hll
  rw [hll] at HMAY0 HB ⊢
  clear hll
  by_cases h0 : k < 1
  · have e0 : ¬ 1 ≤ k := by omega
    have d0 : decide (k < 1) = true := decide_eq_true h0
    have HV : Hid (mokB ⟨k, f, t, id, n, A, c, L⟩ = false) := hide (by unfold mokB; simp [nodeB, HLL.out, e0])
    rw [HV.out]
    go_enter Try.func16, Try.ntmps16
    go_wp2_with fail
    go_ret
    exact ⟨rfl, HB.out⟩
  have e0 : 1 ≤ k := by omega
  by_cases h1 : 10 < k
  · have e1 : ¬ k ≤ 10 := by omega
    have d1 : decide (10 < k) = true := decide_eq_true h1
    have HV : Hid (mokB ⟨k, f, t, id, n, A, c, L⟩ = false) := hide (by unfold mokB; simp [nodeB, HLL.out, e0, e1])
    rw [HV.out]
    go_enter Try.func16, Try.ntmps16
    go_wp2_with fail
    go_ret
    exact ⟨rfl, HB.out⟩
  have e1 : k ≤ 10 := by omega
  by_cases h2 : f < 0
  · have e2 : ¬ 0 ≤ f := by omega
    have d2 : decide (f < 0) = true := decide_eq_true h2
    have HV : Hid (mokB ⟨k, f, t, id, n, A, c, L⟩ = false) := hide (by unfold mokB; simp [nodeB, HLL.out, e0, e1, e2])
    rw [HV.out]
    go_enter Try.func16, Try.ntmps16
    go_wp2_with fail
    go_ret
    exact ⟨rfl, HB.out⟩
  have e2 : 0 ≤ f := by omega
  by_cases h3 : 6 < f
  · have e3 : ¬ f < 7 := by omega
    have d3 : decide (6 < f) = true := decide_eq_true h3
    have HV : Hid (mokB ⟨k, f, t, id, n, A, c, L⟩ = false) := hide (by unfold mokB; simp [nodeB, HLL.out, e0, e1, e2, e3])
    rw [HV.out]
    go_enter Try.func16, Try.ntmps16
    go_wp2_with fail
    go_ret
    exact ⟨rfl, HB.out⟩
  have e3 : f < 7 := by omega
  by_cases h4 : t < 0
  · have e4 : ¬ 0 ≤ t := by omega
    have d4 : decide (t < 0) = true := decide_eq_true h4
    have HV : Hid (mokB ⟨k, f, t, id, n, A, c, L⟩ = false) := hide (by unfold mokB; simp [nodeB, HLL.out, e0, e1, e2, e3, e4])
    rw [HV.out]
    go_enter Try.func16, Try.ntmps16
    go_wp2_with fail
    go_ret
    exact ⟨rfl, HB.out⟩
  have e4 : 0 ≤ t := by omega
  by_cases h5 : 6 < t
  · have e5 : ¬ t < 7 := by omega
    have d5 : decide (6 < t) = true := decide_eq_true h5
    have HV : Hid (mokB ⟨k, f, t, id, n, A, c, L⟩ = false) := hide (by unfold mokB; simp [nodeB, HLL.out, e0, e1, e2, e3, e4, e5])
    rw [HV.out]
    go_enter Try.func16, Try.ntmps16
    go_wp2_with fail
    go_ret
    exact ⟨rfl, HB.out⟩
  have e5 : t < 7 := by omega
  by_cases h6 : 1099511627776 < id
  · have e6 : ¬ id ≤ 1099511627776 := by omega
    have d6 : decide (1099511627776 < id) = true := decide_eq_true h6
    have HV : Hid (mokB ⟨k, f, t, id, n, A, c, L⟩ = false) := hide (by unfold mokB; simp [nodeB, HLL.out, e0, e1, e2, e3, e4, e5, e6])
    rw [HV.out]
    go_enter Try.func16, Try.ntmps16
    go_wp2_with fail
    go_ret
    exact ⟨rfl, HB.out⟩
  have e6 : id ≤ 1099511627776 := by omega
  by_cases h7 : 281474976710656 < n
  · have e7 : ¬ n ≤ 281474976710656 := by omega
    have d7 : decide (281474976710656 < n) = true := decide_eq_true h7
    have HV : Hid (mokB ⟨k, f, t, id, n, A, c, L⟩ = false) := hide (by unfold mokB; simp [nodeB, HLL.out, e0, e1, e2, e3, e4, e5, e6, e7])
    rw [HV.out]
    go_enter Try.func16, Try.ntmps16
    go_wp2_with fail
    go_ret
    exact ⟨rfl, HB.out⟩
  have e7 : n ≤ 281474976710656 := by omega
  by_cases h8 : 1500 < l
  · have h8I : (1500 : Int) < (l : Int) := by omega
    have e8 : ¬ l ≤ 1500 := by omega
    have HV : Hid (mokB ⟨k, f, t, id, n, A, c, L⟩ = false) := hide (by unfold mokB; simp [nodeB, HLL.out, e0, e1, e2, e3, e4, e5, e6, e7, e8])
    rw [HV.out]
    go_enter Try.func16, Try.ntmps16
    go_wp2_with fail
    go_ret
    exact ⟨rfl, HB.out⟩
  have h8I : ¬ (1500 : Int) < (l : Int) := by omega
  have e8 : l ≤ 1500 := by omega
  have HMAY := hide (HMAY0.out (by omega))
  by_cases h9 : l = 0
  · subst h9
    cases h10 : L.all goodB with
    | true =>
      rw [h10, show mayE true = 0 from rfl] at HMAY
      have HV : Hid (mokB ⟨k, f, t, id, n, A, c, L⟩ = true) := hide (by unfold mokB; simp [nodeB, HLL.out, e0, e1, e2, e3, e4, e5, e6, e7, h10])
      rw [HV.out]
      go_enter Try.func16, Try.ntmps16
      go_wp2_with (go_at_call 34; refine (Calls.mono HMAY.out ?_); rintro e w2 ⟨rfl, hb2⟩; have HB2 := hide (below_step HB.out hb2); clear hb2)
      go_ret
      exact ⟨rfl, HB2.out⟩
    | false =>
      rw [h10, show mayE false = 1 from rfl] at HMAY
      have HV : Hid (mokB ⟨k, f, t, id, n, A, c, L⟩ = false) := hide (by unfold mokB; simp [nodeB, HLL.out, e0, e1, e2, e3, e4, e5, e6, e7, h10])
      rw [HV.out]
      go_enter Try.func16, Try.ntmps16
      go_wp2_with (go_at_call 34; refine (Calls.mono HMAY.out ?_); rintro e w2 ⟨rfl, hb2⟩; have HB2 := hide (below_step HB.out hb2); clear hb2)
      go_ret
      exact ⟨rfl, HB2.out⟩
  have h9I : (0 : Int) < (l : Int) := by omega
  have h9N : 0 < l := by omega
  by_cases h11 : k = 1 ∨ k = 5 ∨ k = 7 ∨ k = 8
  · rcases h11 with rfl | rfl | rfl | rfl
    · have HW : Hid (withB 1 = true) := hide rfl
      cases h10 : L.all goodB with
      | true =>
        rw [h10, show mayE true = 0 from rfl] at HMAY
        have HV : Hid (mokB ⟨1, f, t, id, n, A, c, L⟩ = true) := hide (by unfold mokB; simp [nodeB, HLL.out, e2, e3, e4, e5, e6, e7, e8, h9, h10, HW.out])
        rw [HV.out]
        go_enter Try.func16, Try.ntmps16
        go_wp2_with (go_at_call 34; refine (Calls.mono HMAY.out ?_); rintro e w2 ⟨rfl, hb2⟩; have HB2 := hide (below_step HB.out hb2); clear hb2)
        go_ret
        exact ⟨rfl, HB2.out⟩
      | false =>
        rw [h10, show mayE false = 1 from rfl] at HMAY
        have HV : Hid (mokB ⟨1, f, t, id, n, A, c, L⟩ = false) := hide (by unfold mokB; simp [nodeB, HLL.out, e2, e3, e4, e5, e6, e7, e8, h9, h10, HW.out])
        rw [HV.out]
        go_enter Try.func16, Try.ntmps16
        go_wp2_with (go_at_call 34; refine (Calls.mono HMAY.out ?_); rintro e w2 ⟨rfl, hb2⟩; have HB2 := hide (below_step HB.out hb2); clear hb2)
        go_ret
        exact ⟨rfl, HB2.out⟩
    · have HW : Hid (withB 5 = true) := hide rfl
      cases h10 : L.all goodB with
      | true =>
        rw [h10, show mayE true = 0 from rfl] at HMAY
        have HV : Hid (mokB ⟨5, f, t, id, n, A, c, L⟩ = true) := hide (by unfold mokB; simp [nodeB, HLL.out, e2, e3, e4, e5, e6, e7, e8, h9, h10, HW.out])
        rw [HV.out]
        go_enter Try.func16, Try.ntmps16
        go_wp2_with (go_at_call 34; refine (Calls.mono HMAY.out ?_); rintro e w2 ⟨rfl, hb2⟩; have HB2 := hide (below_step HB.out hb2); clear hb2)
        go_ret
        exact ⟨rfl, HB2.out⟩
      | false =>
        rw [h10, show mayE false = 1 from rfl] at HMAY
        have HV : Hid (mokB ⟨5, f, t, id, n, A, c, L⟩ = false) := hide (by unfold mokB; simp [nodeB, HLL.out, e2, e3, e4, e5, e6, e7, e8, h9, h10, HW.out])
        rw [HV.out]
        go_enter Try.func16, Try.ntmps16
        go_wp2_with (go_at_call 34; refine (Calls.mono HMAY.out ?_); rintro e w2 ⟨rfl, hb2⟩; have HB2 := hide (below_step HB.out hb2); clear hb2)
        go_ret
        exact ⟨rfl, HB2.out⟩
    · have HW : Hid (withB 7 = true) := hide rfl
      cases h10 : L.all goodB with
      | true =>
        rw [h10, show mayE true = 0 from rfl] at HMAY
        have HV : Hid (mokB ⟨7, f, t, id, n, A, c, L⟩ = true) := hide (by unfold mokB; simp [nodeB, HLL.out, e2, e3, e4, e5, e6, e7, e8, h9, h10, HW.out])
        rw [HV.out]
        go_enter Try.func16, Try.ntmps16
        go_wp2_with (go_at_call 34; refine (Calls.mono HMAY.out ?_); rintro e w2 ⟨rfl, hb2⟩; have HB2 := hide (below_step HB.out hb2); clear hb2)
        go_ret
        exact ⟨rfl, HB2.out⟩
      | false =>
        rw [h10, show mayE false = 1 from rfl] at HMAY
        have HV : Hid (mokB ⟨7, f, t, id, n, A, c, L⟩ = false) := hide (by unfold mokB; simp [nodeB, HLL.out, e2, e3, e4, e5, e6, e7, e8, h9, h10, HW.out])
        rw [HV.out]
        go_enter Try.func16, Try.ntmps16
        go_wp2_with (go_at_call 34; refine (Calls.mono HMAY.out ?_); rintro e w2 ⟨rfl, hb2⟩; have HB2 := hide (below_step HB.out hb2); clear hb2)
        go_ret
        exact ⟨rfl, HB2.out⟩
    · have HW : Hid (withB 8 = true) := hide rfl
      cases h10 : L.all goodB with
      | true =>
        rw [h10, show mayE true = 0 from rfl] at HMAY
        have HV : Hid (mokB ⟨8, f, t, id, n, A, c, L⟩ = true) := hide (by unfold mokB; simp [nodeB, HLL.out, e2, e3, e4, e5, e6, e7, e8, h9, h10, HW.out])
        rw [HV.out]
        go_enter Try.func16, Try.ntmps16
        go_wp2_with (go_at_call 34; refine (Calls.mono HMAY.out ?_); rintro e w2 ⟨rfl, hb2⟩; have HB2 := hide (below_step HB.out hb2); clear hb2)
        go_ret
        exact ⟨rfl, HB2.out⟩
      | false =>
        rw [h10, show mayE false = 1 from rfl] at HMAY
        have HV : Hid (mokB ⟨8, f, t, id, n, A, c, L⟩ = false) := hide (by unfold mokB; simp [nodeB, HLL.out, e2, e3, e4, e5, e6, e7, e8, h9, h10, HW.out])
        rw [HV.out]
        go_enter Try.func16, Try.ntmps16
        go_wp2_with (go_at_call 34; refine (Calls.mono HMAY.out ?_); rintro e w2 ⟨rfl, hb2⟩; have HB2 := hide (below_step HB.out hb2); clear hb2)
        go_ret
        exact ⟨rfl, HB2.out⟩
  · have hw : withB k = false := by unfold withB; simp; omega
    have b1 : (k != 1) = true := by rw [bne_iff_ne]; omega
    have b2 : (k != 5) = true := by rw [bne_iff_ne]; omega
    have b3 : (k != 7) = true := by rw [bne_iff_ne]; omega
    have b4 : (k != 8) = true := by rw [bne_iff_ne]; omega
    clear h11
    have HV : Hid (mokB ⟨k, f, t, id, n, A, c, L⟩ = false) := hide (by unfold mokB; simp [nodeB, HLL.out, e0, e1, e2, e3, e4, e5, e6, e7, e8, h9, hw])
    rw [HV.out]
    go_enter Try.func16, Try.ntmps16
    go_wp2_with fail
    go_ret
    exact ⟨rfl, HB.out⟩
end Go.Proofs.Ytikecafblampeaa
namespace Go.Proofs.Ytikecafblampeaa
set_option linter.unusedVariables false
set_option linter.unusedSimpArgs false
open Go.ChangeShapes Go.WideShapes Go.ChangeAt Go.RowKit
section
variable {w0 w : World} {b n : Nat} {a id f p : Int} {C : Nat → Bool} {L : List It} {tk ee v : Int}
theorem rdone_end (h : RndO w0 w b (endG n a id f C L tk ee v)) : Calls Try.prog 18 #[.pointer (some ⟨b, 0, none⟩)] w fun e w' => e = .returned (.tuple #[.agg #[.int .u64 id, .int .i64 0, .int .i64 0, .int .u64 0, .int .i64 0, .int .i64 ee, .int .u64 v, .slice none 0 0], .bool true]) ∧ Below w.heap.size w w' := rdone_any h
theorem rdone_st (h : RndO w0 w b (stG n a id f p C L tk)) (hp : p ≠ 3) : Calls Try.prog 18 #[.pointer (some ⟨b, 0, none⟩)] w fun e w' => e = .returned (.tuple #[.agg #[.int .u64 0, .int .i64 0, .int .i64 0, .int .u64 0, .int .i64 0, .int .i64 0, .int .u64 0, .slice none 0 0], .bool false]) ∧ Below w.heap.size w w' := by
  have hp2 : ((stG n a id f p C L tk).ph == 3) = false := by
    show (p == 3) = false
    simpa using hp
  have h2 := rdone_any h
  rw [hp2] at h2
  exact h2
end
theorem ron_s {w0 w : World} {b : Nat} {R R' : Rs} {M : List Mg} (h : RndO w0 w b R) (k : RndK R) (m : Mg) (hm : m.rd w0) (e1 : onR R m = R') (e2 : onM R m = M) :
    Calls Try.prog 10 #[.pointer (some ⟨b, 0, none⟩), m.val] w fun e w' => Told w0 w b R' M e w' ∧ Sets (fun g => g = b) w w' := by
  subst e1
  subst e2
  have hl : m.L.length ≤ 9223372036854775807 := by
    have h1 := hm.2
    unfold maxLen at h1
    omega
  refine Calls.mono (ron_any h m hm hl k.n k.ph k.L k.cnt) ?_
  rintro e w' ⟨v, N, h1, h2, h3, h4, h5⟩
  exact ⟨Told.of ⟨v, N, h1, h2, h3, h4⟩, h5⟩
theorem rsends_b {w0 w : World} {b : Nat} {R : Rs} {M : List Mg} (h : RndO w0 w b R) (k : RndK R) (e2 : sendR R true = M) :
    Calls Try.prog 20 #[.pointer (some ⟨b, 0, none⟩)] w fun e w' => Told w0 w b R M e w' ∧ Below w.heap.size w w' := by
  subst e2
  have hl := k.L
  refine Calls.mono (rsends_any h (by omega) k.ph k.n) ?_
  rintro e w' ⟨v, N, h1, h3, h4, h5⟩
  exact ⟨Told.of ⟨v, N, h1, h.below h5, h3, h4⟩, h5⟩
/-- An answer in a new place. -/
theorem ans_al (w : World) (v0 v1 v2 v3 v4 v5 v6 v7 : Value) : ∃ W, w.alloc (.cells #[v0, v1, v2, v3, v4, v5, v6, v7] 47) = W ∧ Below w.heap.size w W ∧ W.heap[w.heap.size]? = some (.cells [v0, v1, v2, v3, v4, v5, v6, v7].toArray 47 (0, 0)) :=
  ⟨_, rfl, below_alloc (Below.refl w.heap.size w) _, heap_alloc_new w _⟩
/-- An answer in a new place: the cells. -/
theorem ans_at {w W : World} {g : Nat} {v0 v1 v2 v3 v4 v5 v6 v7 : Value} (h : w.heap[g]? = some (.cells [v0, v1, v2, v3, v4, v5, v6, v7].toArray 47 (0, 0))) (hb : Below w.heap.size w W) :
    W.cell? ⟨g, 0, none⟩ = some v0 ∧ W.cell? ⟨g, 1, none⟩ = some v1 ∧ W.cell? ⟨g, 2, none⟩ = some v2 ∧ W.cell? ⟨g, 3, none⟩ = some v3 ∧ W.cell? ⟨g, 4, none⟩ = some v4 ∧ W.cell? ⟨g, 5, none⟩ = some v5 ∧ W.cell? ⟨g, 6, none⟩ = some v6 ∧ W.cell? ⟨g, 7, none⟩ = some v7 := by
  have hg : g < w.heap.size := (Array.getElem?_eq_some_iff.1 h).1
  have h2 := (hb.block g hg).trans h
  refine ⟨?_, ?_, ?_, ?_, ?_, ?_, ?_, ?_⟩ <;> (rw [cell_of_list h2]; rfl)
end Go.Proofs.Ytikecafblampeaa
namespace Go.Proofs.Ytikecafblampeaa
set_option linter.unusedVariables false
set_option linter.unusedSimpArgs false
open Go.ChangeShapes Go.WideShapes Go.ChangeAt Go.RowKit
/-- What a call passes over. -/
def refK (K : Cs) (m : Mg) : Bool := K.dn || !mokB m || !(m.t == K.at_) || !(m.id == K.id) || decide ((K.n : Int) ≤ m.f)
set_option maxRecDepth 100000 in
set_option maxHeartbeats 3200000 in
theorem rcon_ref {w0 w : World} {base p cb : Nat} {K : Cs} (h : CallO w0 w base p cb K) (m : Mg) (hm : m.rd w0) (href : refK K m = true) :
    Calls Try.prog 22 #[.pointer (some ⟨p, 0, none⟩), m.val] w (RcP w0 w base p cb K []) := by
  obtain ⟨mk, mf, mt, mi, mv, mA, mc, mL⟩ := m
  have HOM := hide (fun (W : World) (hW : Below w.heap.size w W) => rmok_any ⟨mk, mf, mt, mi, mv, mA, mc, mL⟩ W ((hm.1.below h.low).below hW))
  obtain ⟨ml, hml⟩ : ∃ ml, mL.length = ml := ⟨_, rfl⟩
  have HML := hide hml
  have hba := below_alloc (Below.refl w.heap.size w) (.cells #[.int .i64 mk, .int .i64 mf, .int .i64 mt, .int .u64 mi, .int .u64 mv, .slice mA ml mc] 30)
  have hz := heap_alloc_new w (.cells #[.int .i64 mk, .int .i64 mf, .int .i64 mt, .int .u64 mi, .int .u64 mv, .slice mA ml mc] 30)
  obtain ⟨w1, hw1⟩ : ∃ w1, w.alloc (.cells #[.int .i64 mk, .int .i64 mf, .int .i64 mt, .int .u64 mi, .int .u64 mv, .slice mA ml mc] 30) = w1 := ⟨_, rfl⟩
  rw [hw1] at hba hz
  obtain ⟨gm, hgm⟩ : ∃ gm, w.heap.size = gm := ⟨_, rfl⟩
  rw [hgm] at hz
  have h1 := h.below hba
  obtain ⟨Ai, ci, _, hcl⟩ := h1.cells
  have HMOK : Hid (∀ W : World, Below w1.heap.size w1 W → Calls Try.prog 16 #[.agg #[.int .i64 mk, .int .i64 mf, .int .i64 mt, .int .u64 mi, .int .u64 mv, .slice mA ml mc]] W fun e w' => e = .returned (.bool (mokB ⟨mk, mf, mt, mi, mv, mA, mc, mL⟩)) ∧ Below W.heap.size W w') := hide (fun W hW => by
    have hx := HOM.out W (below_step hba hW)
    rw [← hml]
    exact hx)
  have HCL := hide hcl
  have H1 := hide h1
  have HBA := hide hba
  have HZ := hide hz
  have HW1 := hide hw1
  have HGM := hide hgm
  have HM := hide hm
  have hpl := h1.lt.1
  have hgl := (Array.getElem?_eq_some_iff.1 hz).1
  clear hcl h1 h hba hz hw1 hgm hm HOM
  show Calls Try.prog 22 #[.pointer (some ⟨p, 0, none⟩), .agg #[.int .i64 mk, .int .i64 mf, .int .i64 mt, .int .u64 mi, .int .u64 mv, .slice mA mL.length mc]] w _
  rw [hml]
  clear hml
  obtain ⟨mo, hmo⟩ : ∃ mo, mokB ⟨mk, mf, mt, mi, mv, mA, mc, mL⟩ = mo := ⟨_, rfl⟩
  have HMO := hide hmo
  rw [hmo] at HMOK
  clear hmo
  go_enter Try.func22, Try.ntmps22
  go_upto_region 1 with fail
  rw [HW1.out, HGM.out]
  clear HW1
  obtain ⟨m0, m1, m2, m3, m4, m5⟩ := six_cells HZ.out
  obtain ⟨c0, c1, c2, c3, c4, c5, c6, c7, c8, c9, c10, c11, c13, c14, cc⟩ := HCL.out w1 (Below.refl _ _)
  have r0 := fun s : Near w1 => s.cell c0 hpl
  have r1 := fun s : Near w1 => s.cell c1 hpl
  have r2 := fun s : Near w1 => s.cell c2 hpl
  cases hd : K.dn with
  | true =>
    rw [hd] at c14
    have r14 := fun s : Near w1 => s.cell c14 hpl
    have q0 := fun s : Near w1 => s.cell m0 hgl
    have q1 := fun s : Near w1 => s.cell m1 hgl
    have q2 := fun s : Near w1 => s.cell m2 hgl
    have q3 := fun s : Near w1 => s.cell m3 hgl
    have q4 := fun s : Near w1 => s.cell m4 hgl
    have q5 := fun s : Near w1 => s.cell m5 hgl
    clear cc c0 c1 c2 c3 c4 c5 c6 c7 c8 c9 c10 c11 c13 c14 m0 m1 m2 m3 m4 m5
    refine wp_region_near (by kernel_rfl) (by kernel_rfl) ?_
    repeat (go_big_quiet_step ((first | (go_at_call 16; exact near_of (HMOK.out _ (Near.is _))))))
    refine wpQuiet_nil ?_
    intro _ hw'
    obtain ⟨s4, rfl⟩ := hw'
    clear r0 r1 r2 r14 q0 q1 q2 q3 q4 q5
    have H4 := hide (H1.out.below s4.is)
    have HB4 := hide (below_step HBA.out s4.is)
    obtain ⟨w4, hw4⟩ : ∃ w4, s4.at_ = w4 := ⟨_, rfl⟩
    rw [hw4] at H4 HB4
    rw [hw4]
    clear hw4
    go_wp2_with fail
    refine bodyPost_ret (v := .tuple #[.bool false, .slice none 0 0]) (by simp [results, Try.results22]) rfl ?_
    exact ⟨false, none, 0, [], cb, rfl, stay_nil _ _, rfl, H4.out, Sets.of HB4.out⟩
  | false =>
    rw [hd] at c14
    have r14 := fun s : Near w1 => s.cell c14 hpl
    have q0 := fun s : Near w1 => s.cell m0 hgl
    have q1 := fun s : Near w1 => s.cell m1 hgl
    have q2 := fun s : Near w1 => s.cell m2 hgl
    have q3 := fun s : Near w1 => s.cell m3 hgl
    have q4 := fun s : Near w1 => s.cell m4 hgl
    have q5 := fun s : Near w1 => s.cell m5 hgl
    clear cc c0 c1 c2 c3 c4 c5 c6 c7 c8 c9 c10 c11 c13 c14 m0 m1 m2 m3 m4 m5
    cases mo with
    | false =>
      refine wp_region_near (by kernel_rfl) (by kernel_rfl) ?_
      repeat (go_big_quiet_step ((first | (go_at_call 16; exact near_of (HMOK.out _ (Near.is _))))))
      refine wpQuiet_nil ?_
      intro _ hw'
      obtain ⟨s4, rfl⟩ := hw'
      clear r0 r1 r2 r14 q0 q1 q2 q3 q4 q5
      have H4 := hide (H1.out.below s4.is)
      have HB4 := hide (below_step HBA.out s4.is)
      obtain ⟨w4, hw4⟩ : ∃ w4, s4.at_ = w4 := ⟨_, rfl⟩
      rw [hw4] at H4 HB4
      rw [hw4]
      clear hw4
      go_wp2_with fail
      refine bodyPost_ret (v := .tuple #[.bool false, .slice none 0 0]) (by simp [results, Try.results22]) rfl ?_
      exact ⟨false, none, 0, [], cb, rfl, stay_nil _ _, rfl, H4.out, Sets.of HB4.out⟩
    | true =>
      by_cases ht : mt = K.at_
      · subst ht
        by_cases hi : mi = K.id
        · subst hi
          have hf : (K.n : Int) ≤ mf := by
            have h9 := href
            unfold refK at h9
            simp only [hd, HMO.out, Bool.not_true, Bool.false_or, beq_self_eq_true, decide_eq_true_eq] at h9
            exact h9
          clear href
          refine wp_region_near (by kernel_rfl) (by kernel_rfl) ?_
          repeat (go_big_quiet_step ((first | (go_at_call 16; exact near_of (HMOK.out _ (Near.is _))))))
          refine wpQuiet_nil ?_
          intro _ hw'
          obtain ⟨s4, rfl⟩ := hw'
          clear r0 r1 r2 r14 q0 q1 q2 q3 q4 q5
          have H4 := hide (H1.out.below s4.is)
          have HB4 := hide (below_step HBA.out s4.is)
          obtain ⟨w4, hw4⟩ : ∃ w4, s4.at_ = w4 := ⟨_, rfl⟩
          rw [hw4] at H4 HB4
          rw [hw4]
          clear hw4
          go_wp2_with fail
          refine bodyPost_ret (v := .tuple #[.bool false, .slice none 0 0]) (by simp [results, Try.results22]) rfl ?_
          exact ⟨false, none, 0, [], cb, rfl, stay_nil _ _, rfl, H4.out, Sets.of HB4.out⟩
        · have hiJ : (mi != K.id) = true := bne_iff_ne.2 hi
          clear href
          refine wp_region_near (by kernel_rfl) (by kernel_rfl) ?_
          repeat (go_big_quiet_step ((first | (go_at_call 16; exact near_of (HMOK.out _ (Near.is _))))))
          refine wpQuiet_nil ?_
          intro _ hw'
          obtain ⟨s4, rfl⟩ := hw'
          clear r0 r1 r2 r14 q0 q1 q2 q3 q4 q5
          have H4 := hide (H1.out.below s4.is)
          have HB4 := hide (below_step HBA.out s4.is)
          obtain ⟨w4, hw4⟩ : ∃ w4, s4.at_ = w4 := ⟨_, rfl⟩
          rw [hw4] at H4 HB4
          rw [hw4]
          clear hw4
          go_wp2_with fail
          refine bodyPost_ret (v := .tuple #[.bool false, .slice none 0 0]) (by simp [results, Try.results22]) rfl ?_
          exact ⟨false, none, 0, [], cb, rfl, stay_nil _ _, rfl, H4.out, Sets.of HB4.out⟩
      · have htJ : (mt != K.at_) = true := bne_iff_ne.2 ht
        clear href
        refine wp_region_near (by kernel_rfl) (by kernel_rfl) ?_
        repeat (go_big_quiet_step ((first | (go_at_call 16; exact near_of (HMOK.out _ (Near.is _))))))
        refine wpQuiet_nil ?_
        intro _ hw'
        obtain ⟨s4, rfl⟩ := hw'
        clear r0 r1 r2 r14 q0 q1 q2 q3 q4 q5
        have H4 := hide (H1.out.below s4.is)
        have HB4 := hide (below_step HBA.out s4.is)
        obtain ⟨w4, hw4⟩ : ∃ w4, s4.at_ = w4 := ⟨_, rfl⟩
        rw [hw4] at H4 HB4
        rw [hw4]
        clear hw4
        go_wp2_with fail
        refine bodyPost_ret (v := .tuple #[.bool false, .slice none 0 0]) (by simp [results, Try.results22]) rfl ?_
        exact ⟨false, none, 0, [], cb, rfl, stay_nil _ _, rfl, H4.out, Sets.of HB4.out⟩
set_option maxRecDepth 100000 in
set_option maxHeartbeats 3200000 in
theorem rcon_go {w0 w : World} {base p cb : Nat} {K : Cs} (h : CallO w0 w base p cb K) (m : Mg) (hm : m.rd w0) (href : refK K m = false) (hr : K.rd = true) {K' : Cs} {M : List Mg} (hC : ∀ W, CallO w0 W base p cb K → Calls Try.prog 38 #[.pointer (some ⟨p, 0, none⟩), m.val] W (RcP w0 W base p cb K' M)) :
    Calls Try.prog 22 #[.pointer (some ⟨p, 0, none⟩), m.val] w (RcP w0 w base p cb K' M) := by
  obtain ⟨mk, mf, mt, mi, mv, mA, mc, mL⟩ := m
  have HOM := hide (fun (W : World) (hW : Below w.heap.size w W) => rmok_any ⟨mk, mf, mt, mi, mv, mA, mc, mL⟩ W ((hm.1.below h.low).below hW))
  obtain ⟨ml, hml⟩ : ∃ ml, mL.length = ml := ⟨_, rfl⟩
  have HML := hide hml
  have hba := below_alloc (Below.refl w.heap.size w) (.cells #[.int .i64 mk, .int .i64 mf, .int .i64 mt, .int .u64 mi, .int .u64 mv, .slice mA ml mc] 30)
  have hz := heap_alloc_new w (.cells #[.int .i64 mk, .int .i64 mf, .int .i64 mt, .int .u64 mi, .int .u64 mv, .slice mA ml mc] 30)
  obtain ⟨w1, hw1⟩ : ∃ w1, w.alloc (.cells #[.int .i64 mk, .int .i64 mf, .int .i64 mt, .int .u64 mi, .int .u64 mv, .slice mA ml mc] 30) = w1 := ⟨_, rfl⟩
  rw [hw1] at hba hz
  obtain ⟨gm, hgm⟩ : ∃ gm, w.heap.size = gm := ⟨_, rfl⟩
  rw [hgm] at hz
  have h1 := h.below hba
  obtain ⟨Ai, ci, _, hcl⟩ := h1.cells
  have HMOK : Hid (∀ W : World, Below w1.heap.size w1 W → Calls Try.prog 16 #[.agg #[.int .i64 mk, .int .i64 mf, .int .i64 mt, .int .u64 mi, .int .u64 mv, .slice mA ml mc]] W fun e w' => e = .returned (.bool (mokB ⟨mk, mf, mt, mi, mv, mA, mc, mL⟩)) ∧ Below W.heap.size W w') := hide (fun W hW => by
    have hx := HOM.out W (below_step hba hW)
    rw [← hml]
    exact hx)
  have HCL := hide hcl
  have H1 := hide h1
  have HBA := hide hba
  have HZ := hide hz
  have HW1 := hide hw1
  have HGM := hide hgm
  have HM := hide hm
  have hpl := h1.lt.1
  have hgl := (Array.getElem?_eq_some_iff.1 hz).1
  clear hcl h1 h hba hz hw1 hgm hm HOM
  show Calls Try.prog 22 #[.pointer (some ⟨p, 0, none⟩), .agg #[.int .i64 mk, .int .i64 mf, .int .i64 mt, .int .u64 mi, .int .u64 mv, .slice mA mL.length mc]] w _
  rw [hml]
  clear hml
  obtain ⟨mo, hmo⟩ : ∃ mo, mokB ⟨mk, mf, mt, mi, mv, mA, mc, mL⟩ = mo := ⟨_, rfl⟩
  have HMO := hide hmo
  rw [hmo] at HMOK
  clear hmo
  go_enter Try.func22, Try.ntmps22
  go_upto_region 1 with fail
  rw [HW1.out, HGM.out]
  clear HW1
  obtain ⟨m0, m1, m2, m3, m4, m5⟩ := six_cells HZ.out
  obtain ⟨c0, c1, c2, c3, c4, c5, c6, c7, c8, c9, c10, c11, c13, c14, cc⟩ := HCL.out w1 (Below.refl _ _)
  have r0 := fun s : Near w1 => s.cell c0 hpl
  have r1 := fun s : Near w1 => s.cell c1 hpl
  have r2 := fun s : Near w1 => s.cell c2 hpl
  have h9 := href
  unfold refK at h9
  simp only [Bool.or_eq_false_iff, Bool.not_eq_false', beq_iff_eq, decide_eq_false_iff_not] at h9
  obtain ⟨⟨⟨⟨hd, hmk⟩, ht⟩, hi⟩, hf⟩ := h9
  have hmo2 : mo = true := by rw [← HMO.out]; exact hmk
  subst hmo2
  subst ht
  subst hi
  have hfI : mf < (K.n : Int) := by omega
  have hfJ : ¬ (K.n : Int) ≤ mf := hf
  rw [hd] at c14
  have c3b := c3
  rw [hr] at c3b
  have r14 := fun s : Near w1 => s.cell c14 hpl
  have r3 := fun s : Near w1 => s.cell c3b hpl
  have q0 := fun s : Near w1 => s.cell m0 hgl
  have q1 := fun s : Near w1 => s.cell m1 hgl
  have q2 := fun s : Near w1 => s.cell m2 hgl
  have q3 := fun s : Near w1 => s.cell m3 hgl
  have q4 := fun s : Near w1 => s.cell m4 hgl
  have q5 := fun s : Near w1 => s.cell m5 hgl
  clear c3b cc c0 c1 c2 c3 c4 c5 c6 c7 c8 c9 c10 c11 c13 c14 m0 m1 m2 m3 m4 m5
  clear hd hmk href hf
  have HCC := hide hC
  clear hC
  refine wp_region_near (by kernel_rfl) (by kernel_rfl) ?_
  repeat (go_big_quiet_step ((first | (go_at_call 16; exact near_of (HMOK.out _ (Near.is _))))))
  refine wpQuiet_nil ?_
  intro _ hw'
  obtain ⟨s4, rfl⟩ := hw'
  clear r0 r1 r2 r14 q0 q1 q2 q3 q4 q5
  have z3 := r3 s4
  have H4 := hide (H1.out.below s4.is)
  have HB4 := hide (below_step HBA.out s4.is)
  have hz4 := (s4.is.block gm hgl).trans HZ.out
  obtain ⟨m0, m1, m2, m3, m4, m5⟩ := six_cells hz4
  obtain ⟨w4, hw4⟩ : ∃ w4, s4.at_ = w4 := ⟨_, rfl⟩
  rw [hw4] at H4 HB4 z3 m0 m1 m2 m3 m4 m5
  rw [hw4]
  clear hw4 r3 hz4
  have HON : Hid (Calls Try.prog 38 #[.pointer (some ⟨p, 0, none⟩), .agg #[.int .i64 mk, .int .i64 mf, .int .i64 K.at_, .int .u64 K.id, .int .u64 mv, .slice mA ml mc]] w4 (RcP w0 w4 base p cb K' M)) := hide (by rw [← HML.out]; exact HCC.out w4 H4.out)
  go_wp2_with fail
  refine (Calls.mono HON.out ?_); rintro e w5 ⟨ok, A, c, N, cb', rfl, h1, h3, h4, h5⟩
  have HX := hide (And.intro h1 (And.intro h3 (And.intro h4 h5)))
  clear h1 h3 h4 h5 HON m0 m1 m2 m3 m4 m5 z3
  go_wp2_with fail
  refine bodyPost_ret (v := .tuple #[.bool ok, .slice A N.length c]) (by simp [results, Try.results22]) rfl ?_
  exact ⟨ok, A, c, N, cb', rfl, HX.out.1, HX.out.2.1, HX.out.2.2.1, (Sets.of (S := fun g => g = p ∨ g = cb) HB4.out).trans HX.out.2.2.2 (fun _ _ h => h)⟩
end Go.Proofs.Ytikecafblampeaa
namespace Go.Proofs.Ytikecafblampeaa
set_option linter.unusedVariables false
set_option linter.unusedSimpArgs false
open Go.ChangeShapes Go.WideShapes Go.ChangeAt Go.RowKit
def tick1K (K : Cs) : Cs := { K with tk := K.tk + 1 }
def tickK (K : Cs) : Cs := if K.dn = true then K else if 40 ≤ K.tk + 1 then { endK (tick1K K) 20 K.ver with ph := 3 } else tick1K K
def tickKM (K : Cs) : List Mg := if K.dn = true then [] else if 40 ≤ K.tk + 1 then [] else if (K.tk + 1) % 3 = 0 then sendK (tick1K K) false else []
def RcQ (w0 w : World) (base p cb : Nat) (K' : Cs) (M : List Mg) (e : Ending) (w' : World) : Prop := ∃ (A : Option Addr) (c : Nat) (N : List Mg), e = .returned (.slice A N.length c) ∧ Stay base w' A N ∧ N.map Mg.bare = M ∧ CallO w0 w' base p cb K' ∧ Sets (fun g => g = p) w w'
set_option maxRecDepth 100000 in
set_option maxHeartbeats 3200000 in
theorem rctick_any {w0 w : World} {base p cb : Nat} {K : Cs} (h : CallO w0 w base p cb K) (hr : K.rd = true) (hn : K.n ≤ 7) (ht : 0 ≤ K.tk ∧ K.tk ≤ 1000000) :
    Calls Try.prog 24 #[.pointer (some ⟨p, 0, none⟩)] w (RcQ w0 w base p cb (tickK K) (tickKM K)) := by
  have HH := hide h
  obtain ⟨_, _, _, hcl⟩ := h.cells
  have c13 := (hcl w (Below.refl _ _)).c13
  have c14 := (hcl w (Below.refl _ _)).c14
  have f13 := h.frozen.1 13
  cases hd : K.dn with
  | true =>
    rw [hd] at c14
    have HT : Hid (tickK K = K ∧ tickKM K = []) := hide ⟨by unfold tickK; rw [if_pos hd], by unfold tickKM; rw [if_pos hd]⟩
    clear hcl h c13 f13 hd
    go_enter Try.func24, Try.ntmps24
    go_wp2_with fail
    go_ret
    exact ⟨none, 0, [], rfl, stay_nil _ _, by rw [HT.out.2]; rfl, by rw [HT.out.1]; exact HH.out, Sets.refl _⟩
  | false =>
    rw [hd] at c14
    have H1 := hide (h.putp (tick1K K) 13 (.int .i64 (K.tk + 1)) (fun _ _ _ => rfl) rfl rfl rfl rfl rfl)
    have hs1 : Sets (fun g => g = p) w (w.setCell ⟨p, 13, none⟩ (.int .i64 (K.tk + 1))) := (Sets.refl (S := fun g => g = p) w).set (g := p) (fun _ => rfl) 13 _
    have hwt : IntKind.i64.wrap (K.tk + 1) = K.tk + 1 := by rw [IntKind.wrap_i64]; omega
    obtain ⟨w1, hw1⟩ : ∃ w1, w.setCell ⟨p, 13, none⟩ (.int .i64 (K.tk + 1)) = w1 := ⟨_, rfl⟩
    rw [hw1] at H1 hs1
    have HW1 := hide hw1
    have HS1 := hide hs1
    have HD := hide hd
    clear hcl hs1 hw1 h hd
    go_enter Try.func24, Try.ntmps24
    go_upto_region 4 with fail
    rw [HW1.out]
    obtain ⟨_, _, _, hcl⟩ := H1.out.cells
    have d3 : w1.cell? ⟨p, 3, none⟩ = some (.bool true) := by
      have h3 : w1.cell? ⟨p, 3, none⟩ = some (.bool K.rd) := (hcl w1 (Below.refl _ _)).c3
      rw [hr] at h3
      exact h3
    have d8 : w1.cell? ⟨p, 8, none⟩ = some (.int .u64 K.ver) := (hcl w1 (Below.refl _ _)).c8
    have d13 : w1.cell? ⟨p, 13, none⟩ = some (.int .i64 (K.tk + 1)) := (hcl w1 (Below.refl _ _)).c13
    clear hcl c13 c14 f13 HW1 hwt
    obtain ⟨t, htt⟩ : ∃ t, K.tk + 1 = t := ⟨_, rfl⟩
    have HTT := hide htt
    rw [htt] at d13
    have ht0 : 0 ≤ t ∧ t ≤ 1000001 := by omega
    clear htt ht
    by_cases h40 : 40 ≤ t
    · have HT : Hid (tickK K = { endK (tick1K K) 20 K.ver with ph := 3 } ∧ tickKM K = []) := hide ⟨by unfold tickK; rw [if_neg (by simp [HD.out]), if_pos (by rw [HTT.out]; exact h40)], by unfold tickKM; rw [if_neg (by simp [HD.out]), if_pos (by rw [HTT.out]; exact h40)]⟩
      have HE := hide (rcend_any H1.out (show (tick1K K).rd = true from hr) 20 K.ver)
      go_wp2_with fail
      refine (Calls.mono HE.out ?_); rintro e w2 ⟨rfl, hc2, hs2⟩
      have H3 := hide (hc2.putp { endK (tick1K K) 20 K.ver with ph := 3 } 9 (.int .i64 3) (fun _ _ _ => rfl) rfl rfl rfl rfl rfl)
      have HS3 := hide ((HS1.out.trans hs2 (fun _ _ h => h)).set (g := p) (fun _ => rfl) 9 (.int .i64 3))
      obtain ⟨_, _, _, hcl⟩ := hc2.cells
      have e9 := hc2.frozen.1 9
      have e3 : w2.cell? ⟨p, 3, none⟩ = some (.bool true) := by
        have h3 : w2.cell? ⟨p, 3, none⟩ = some (.bool K.rd) := (hcl w2 (Below.refl _ _)).c3
        rw [hr] at h3
        exact h3
      have q9 : w2.cell? ⟨p, 9, none⟩ = some (.int .i64 K.ph) := (hcl w2 (Below.refl _ _)).c9
      clear d3 d8 d13 hcl hc2 hs2 HE H1 HS1
      go_wp2_with fail
      go_ret
      exact ⟨none, 0, [], rfl, stay_nil _ _, by rw [HT.out.2]; rfl, by rw [HT.out.1]; exact H3.out, HS3.out⟩
    · by_cases h3 : t % 3 = 0
      · have HT : Hid (tickK K = tick1K K ∧ tickKM K = sendK (tick1K K) false) := hide ⟨by unfold tickK; rw [if_neg (by simp [HD.out]), if_neg (by rw [HTT.out]; exact h40)], by unfold tickKM; rw [if_neg (by simp [HD.out]), if_neg (by rw [HTT.out]; exact h40), if_pos (by rw [HTT.out]; exact h3)]⟩
        have HTO := hide (rcto_any H1.out (show (tick1K K).rd = true from hr) hn false)
        have h0 := ht0.1
        go_wp2_with fail
        refine (Calls.mono HTO.out ?_); rintro e w2 ⟨A, c, N, rfl, h1, h4, h5⟩
        have HX := hide (And.intro h1 (And.intro h4 h5))
        clear h1 h4 h5 HTO d3 d8 d13
        go_wp2_with fail
        go_ret
        exact ⟨A, c, N, rfl, HX.out.1, by rw [HT.out.2]; exact HX.out.2.1, by rw [HT.out.1]; exact H1.out.below HX.out.2.2, HS1.out.trans (Sets.of HX.out.2.2) (fun _ _ h => h)⟩
      · have HT : Hid (tickK K = tick1K K ∧ tickKM K = []) := hide ⟨by unfold tickK; rw [if_neg (by simp [HD.out]), if_neg (by rw [HTT.out]; exact h40)], by unfold tickKM; rw [if_neg (by simp [HD.out]), if_neg (by rw [HTT.out]; exact h40), if_neg (by rw [HTT.out]; exact h3)]⟩
        have h0 := ht0.1
        go_wp2_with fail
        go_ret
        exact ⟨none, 0, [], rfl, stay_nil _ _, by rw [HT.out.2]; rfl, by rw [HT.out.1]; exact H1.out, HS1.out⟩
end Go.Proofs.Ytikecafblampeaa
namespace Go.Proofs.Ytikecafblampeaa
set_option linter.unusedVariables false
set_option linter.unusedSimpArgs false
open Go.ChangeShapes Go.WideShapes Go.ChangeAt Go.RowKit
theorem reqs_sl {v u : Value} {L : List It} {w : World} (h : Sl w v L) (k : Sl w u L) (hn : L.length ≤ 4611686018427387904) : Calls Try.prog 13 #[v, u] w fun e w' => e = .returned (.bool true) ∧ Below w.heap.size w w' := by
  obtain ⟨A, c, rfl, hL, _, _⟩ := h
  obtain ⟨B, d, rfl, hM, _, _⟩ := k
  have := requal_any A B c d L L w hL hM hn hn
  rw [show eqL L L = true from eqL_iff.2 rfl] at this
  exact this
end Go.Proofs.Ytikecafblampeaa
namespace Go.Proofs.Ytikecafblampeaa
set_option linter.unusedVariables false
set_option linter.unusedSimpArgs false
open Go.ChangeShapes Go.WideShapes Go.ChangeAt Go.RowKit
def kR (n : Nat) (R : Rs) (rp : Int) : Cs := ⟨R.id, n, R.at_, true, 0, 0, 0, 0, R.f, rp, R.C, R.L, [], R.tk, R.ph == 3, R.aid, 0, 0, 0, 0, R.ae, R.av, []⟩
structure Inv (n : Nat) (R : Rs) (rp : Int) : Prop where
  rn : R.n = (n : Int)
  n7 : 1 ≤ n ∧ n ≤ 7
  ph : R.ph = 1 ∨ R.ph = 2 ∨ R.ph = 3
  on : R.ph ≠ 3 → rp = R.ph ∧ R.cnt = (cntC R.C n : Nat) ∧ R.d = 0 ∧ cntC R.C n < n ∧ R.tk ≤ 39
  cnt : 0 ≤ R.cnt ∧ R.cnt ≤ 1000
  tk : 0 ≤ R.tk ∧ R.tk ≤ 1000
theorem kR_zero (n : Nat) (a id f : Int) : cs0 n a id 0 0 0 0 f true = kR n (rs0 n a id f) 1 := rfl
theorem inv_zero {n : Nat} (hn : 1 ≤ n ∧ n ≤ 7) (a id f : Int) : Inv n (rs0 n a id f) 1 :=
  ⟨rfl, hn, .inl rfl, fun _ => ⟨rfl, by rw [show (rs0 n a id f).C = fun _ => false from rfl, cntC_none]; rfl, rfl, by rw [show (rs0 n a id f).C = fun _ => false from rfl, cntC_none]; omega, show (0 : Int) ≤ 39 by decide⟩, show (0 : Int) ≤ 0 ∧ (0 : Int) ≤ 1000 by decide, show (0 : Int) ≤ 0 ∧ (0 : Int) ≤ 1000 by decide⟩
section
variable {n : Nat} {R : Rs} {rp : Int}
theorem Inv.k (I : Inv n R rp) (hL : R.L.length ≤ 274877906944) : RndK R := ⟨by have := I.rn; have := I.n7; omega, I.ph, hL, I.cnt, by have := I.tk; omega⟩
theorem send_eq (I : Inv n R rp) (each : Bool) : sendK (kR n R rp) each = sendR R each := by
  unfold sendK sendR
  by_cases h3 : R.ph = 3
  · rw [if_pos h3, if_pos (show (kR n R rp).dn = true by show (R.ph == 3) = true; simpa using h3)]
  · rw [if_neg h3, if_neg (show ¬ (kR n R rp).dn = true by show ¬ (R.ph == 3) = true; simpa using h3)]
    unfold toK sendTo
    rw [I.rn]
    show List.map _ (List.filter (fun j => each || !R.C j) (List.range n)) = List.map _ (List.filter (fun j => each || !R.C j) (List.range ((n : Int).toNat)))
    rw [Int.toNat_natCast]
    apply List.map_congr_left
    intro j _
    unfold msgK toM kindR
    have hrp := (I.on h3).1
    show (if rp = 1 then (⟨6, R.at_, (j : Int), R.id, R.f, none, 0, []⟩ : Mg) else ⟨8, R.at_, (j : Int), R.id, R.f, none, 0, R.L⟩) = _
    rcases I.ph with h | h | h
    · rw [if_pos (by omega), if_neg (by omega)]; rfl
    · rw [if_neg (by omega), if_pos h]; rfl
    · exact absurd h h3
theorem end_eq (I : Inv n R rp) (h3 : R.ph ≠ 3) (ee vv : Int) : endK (kR n R rp) ee vv = kR n (end1R R ee vv) rp ∧ Inv n (end1R R ee vv) rp := by
  have hd := (I.on h3).2.2.1
  have e : end1R R ee vv = { endR R ee vv with d := 1 } := by unfold end1R; rw [if_pos hd]
  rw [e]
  exact ⟨rfl, ⟨I.rn, I.n7, .inr (.inr rfl), fun h => absurd rfl h, I.cnt, I.tk⟩⟩
theorem tick_eq (I : Inv n R rp) : ∃ rp', tickK (kR n R rp) = kR n (tickR R) rp' ∧ tickKM (kR n R rp) = tickM R ∧ Inv n (tickR R) rp' := by
  by_cases h3 : R.ph = 3
  · have hdn : (kR n R rp).dn = true := by show (R.ph == 3) = true; simpa using h3
    refine ⟨rp, ?_, ?_, ?_⟩
    · unfold tickK tickR; rw [if_pos hdn, if_pos h3]
    · unfold tickKM tickM; rw [if_pos hdn, if_pos h3]
    · unfold tickR; rw [if_pos h3]; exact I
  · have hdn : ¬ (kR n R rp).dn = true := by show ¬ (R.ph == 3) = true; simpa using h3
    obtain ⟨h1, h2, h4, h5, h6⟩ := I.on h3
    have htk := I.tk
    have I1 : R.tk + 1 ≤ 39 → Inv n (tick1 R) rp := fun hh => ⟨I.rn, I.n7, I.ph, fun h => ⟨h1, h2, h4, h5, hh⟩, I.cnt, by show 0 ≤ R.tk + 1 ∧ R.tk + 1 ≤ 1000; omega⟩
    by_cases h40 : R.tk + 1 = 40
    · have e : end1R (tick1 R) 20 R.f = { endR (tick1 R) 20 R.f with d := 1 } := by unfold end1R; rw [if_pos (show (tick1 R).d = 0 from h4)]
      have e1 : tickR R = { endR (tick1 R) 20 R.f with d := 1 } := by unfold tickR; rw [if_neg h3, if_pos h40, e]
      refine ⟨3, ?_, ?_, ?_⟩
      · rw [e1]
        unfold tickK
        rw [if_neg hdn, if_pos (show 40 ≤ (kR n R rp).tk + 1 by show 40 ≤ R.tk + 1; omega)]
        rfl
      · unfold tickKM tickM
        rw [if_neg hdn, if_pos (show 40 ≤ (kR n R rp).tk + 1 by show 40 ≤ R.tk + 1; omega), if_neg h3, if_pos h40]
      · rw [e1]
        exact ⟨I.rn, I.n7, .inr (.inr rfl), fun h => absurd rfl h, I.cnt, by show 0 ≤ R.tk + 1 ∧ R.tk + 1 ≤ 1000; omega⟩
    · have e1 : tickR R = tick1 R := by unfold tickR; rw [if_neg h3, if_neg h40]
      refine ⟨rp, ?_, ?_, by rw [e1]; exact I1 (by omega)⟩
      · rw [e1]
        unfold tickK
        rw [if_neg hdn, if_neg (show ¬ 40 ≤ (kR n R rp).tk + 1 by show ¬ 40 ≤ R.tk + 1; omega)]
        rfl
      · unfold tickKM tickM
        rw [if_neg hdn, if_neg (show ¬ 40 ≤ (kR n R rp).tk + 1 by show ¬ 40 ≤ R.tk + 1; omega), if_neg h3, if_neg h40]
        by_cases hm : (R.tk + 1) % 3 = 0
        · rw [if_pos hm, if_pos (show ((kR n R rp).tk + 1) % 3 = 0 from hm)]
          exact send_eq (I1 (by omega)) false
        · rw [if_neg hm, if_neg (show ¬ ((kR n R rp).tk + 1) % 3 = 0 from hm)]
theorem more_eq (I : Inv n R rp) (h3 : R.ph ≠ 3) (m : Mg) : takeK (kR n R rp) m = kR n (countR (takeR R m) m.f.toNat) rp := by
  have hrp := (I.on h3).1
  have e : takeK (kR n R rp) m = { kR n R rp with C := setC R.C m.f.toNat, L := if R.ph = 1 then joinL R.L m.L else R.L } := by
    unfold takeK
    have : (if (kR n R rp).ph = 1 then joinL (kR n R rp).L m.L else (kR n R rp).L) = (if R.ph = 1 then joinL R.L m.L else R.L) := by
      show (if rp = 1 then joinL R.L m.L else R.L) = _
      rw [hrp]
    rw [this]
    rfl
  rw [e]
  by_cases h1 : R.ph = 1
  · rw [if_pos h1]
    unfold takeR
    rw [if_pos h1]
    rfl
  · rw [if_neg h1]
    unfold takeR
    rw [if_neg h1]
    rfl
/-- On, of both. -/
theorem on_eq {w0 w : World} {base p cb : Nat} (I : Inv n R rp) (h : CallO w0 w base p cb (kR n R rp)) (m : Mg) (hm : m.rd w0) (hLL : R.L.length ≤ 274877906944 ∧ m.L.length ≤ 274877906944) :
    ∃ rp', Inv n (onR R m) rp' ∧ Calls Try.prog 22 #[.pointer (some ⟨p, 0, none⟩), m.val] w (RcP w0 w base p cb (kR n (onR R m) rp') (onM R m)) := by
  by_cases hrf : refK (kR n R rp) m = true
  · have hr : refB R m = true := by
      unfold refK at hrf
      unfold refB
      have e1 : (kR n R rp).dn = (R.ph == 3) := rfl
      have e2 : (kR n R rp).at_ = R.at_ := rfl
      have e3 : (kR n R rp).id = R.id := rfl
      have e4 : ((kR n R rp).n : Int) = R.n := I.rn.symm
      rw [e1, e2, e3, e4] at hrf
      rw [hrf]
      rfl
    refine ⟨rp, by unfold onR; rw [if_pos hr]; exact I, ?_⟩
    have e1 : onR R m = R := by unfold onR; rw [if_pos hr]
    have e2 : onM R m = [] := by unfold onM; rw [if_pos hr]
    rw [e1, e2]
    exact rcon_ref h m hm hrf
  · have hrf : refK (kR n R rp) m = false := by simpa using hrf
    have h9 := hrf
    unfold refK at h9
    simp only [Bool.or_eq_false_iff, Bool.not_eq_false', beq_iff_eq, decide_eq_false_iff_not] at h9
    obtain ⟨⟨⟨⟨hd, hmk⟩, ht⟩, hi⟩, hf⟩ := h9
    have h3 : R.ph ≠ 3 := by
      have : (R.ph == 3) = false := hd
      simpa using this
    obtain ⟨o1, o2, o3, o4, o5⟩ := I.on h3
    obtain ⟨hf0, hf7, hml⟩ := mokB_facts hmk
    have hfn : m.f < (n : Int) := by
      have : ¬ (n : Int) ≤ m.f := hf
      omega
    obtain ⟨f, hff⟩ : ∃ f : Nat, m.f = (f : Int) := ⟨m.f.toNat, by omega⟩
    have hft : m.f.toNat = f := by omega
    have hfl : f < (kR n R rp).n := by show f < n; omega
    have hn7 : (kR n R rp).n ≤ 7 := I.n7.2
    have hB : refB R m = (!(m.n == R.f) && !(m.k == 3)) := by
      unfold refB
      have e1 : (R.ph == 3) = false := hd
      have e2 : (m.t == R.at_) = true := beq_iff_eq.2 ht
      have e3 : (m.id == R.id) = true := beq_iff_eq.2 hi
      have e4 : decide (R.n ≤ m.f) = false := decide_eq_false (by rw [I.rn]; omega)
      rw [e1, hmk, e2, e3, e4]
      rfl
    by_cases hk3 : m.k = 3
    · have hr : ¬ refB R m = true := by rw [hB, hk3]; simp
      have e1 : onR R m = end1R R 21 m.n := by unfold onR swR; rw [if_neg hr, if_pos hk3]
      have e2 : onM R m = [] := by unfold onM swM; rw [if_neg hr, if_pos hk3]
      obtain ⟨e3, I3⟩ := end_eq I h3 21 m.n
      refine ⟨rp, by rw [e1]; exact I3, ?_⟩
      rw [e1, e2, ← e3]
      exact rcon_go h m hm hrf rfl (fun W hW => rcon_old hW rfl hn7 m hm hff hfl hk3)
    · by_cases hv : m.n = R.f
      · have hr : ¬ refB R m = true := by rw [hB, hv]; simp
        by_cases hc : R.C f = true
        · have e1 : onR R m = R := by unfold onR swR; rw [if_neg hr, if_neg hk3, hft, if_pos hc]
          have e2 : onM R m = [] := by unfold onM swM; rw [if_neg hr, if_neg hk3, hft, if_pos hc]
          refine ⟨rp, by rw [e1]; exact I, ?_⟩
          rw [e1, e2]
          exact rcon_go h m hm hrf rfl (fun W hW => rcon_skip hW rfl hn7 m hm hff hfl hk3 (.inr (.inr hc)))
        · have hcf : R.C f = false := by simpa using hc
          have hset := cntC_set (C := R.C) (i := f) (n := n) (by omega) hcf
          by_cases hh : hitB R m
          · have e1 : onR R m = goR (takeR R m) f := by unfold onR swR; rw [if_neg hr, if_neg hk3, hft, if_neg hc, if_pos hh]
            have e2 : onM R m = goM (takeR R m) f := by unfold onM swM; rw [if_neg hr, if_neg hk3, hft, if_neg hc, if_pos hh]
            have hme := more_eq I h3 m
            rw [hft] at hme
            have htk : (takeR R m).cnt = R.cnt ∧ (takeR R m).n = R.n ∧ (takeR R m).ph = R.ph ∧ (takeR R m).C = R.C ∧ (takeR R m).tk = R.tk ∧ (takeR R m).d = R.d ∧ (takeR R m).f = R.f := by
              unfold takeR
              split <;> exact ⟨rfl, rfl, rfl, rfl, rfl, rfl, rfl⟩
            obtain ⟨t1, t2, t3, t4, t5, t6, t7⟩ := htk
            have hIc : cntC R.C n + 1 < n → Inv n (countR (takeR R m) f) rp := fun hlt => ⟨by show (takeR R m).n = _; rw [t2]; exact I.rn, I.n7, by show (takeR R m).ph = 1 ∨ (takeR R m).ph = 2 ∨ (takeR R m).ph = 3; rw [t3]; exact I.ph,
              fun _ => ⟨by show rp = (takeR R m).ph; rw [t3]; exact o1, by
                show (takeR R m).cnt + 1 = ((cntC (fun k => if k = f then true else (takeR R m).C k) n : Nat) : Int)
                rw [t1, t4, o2]
                have : (fun k => if k = f then true else R.C k) = setC R.C f := rfl
                rw [this, hset]
                omega, by show (takeR R m).d = 0; rw [t6]; exact o3, by
                show cntC (fun k => if k = f then true else (takeR R m).C k) n < n
                rw [t4]
                have : (fun k => if k = f then true else R.C k) = setC R.C f := rfl
                rw [this, hset]
                exact hlt, by show (takeR R m).tk ≤ 39; rw [t5]; exact o5⟩,
              by show 0 ≤ (takeR R m).cnt + 1 ∧ (takeR R m).cnt + 1 ≤ 1000; rw [t1, o2]; have := I.n7; omega, by show 0 ≤ (takeR R m).tk ∧ (takeR R m).tk ≤ 1000; rw [t5]; exact I.tk⟩
            by_cases hlt : cntC R.C n + 1 < n
            · have hcl : (takeR R m).cnt + 1 < (takeR R m).n := by rw [t1, t2, o2, I.rn]; omega
              have e3 : goR (takeR R m) f = countR (takeR R m) f := by unfold goR; rw [if_pos hcl]
              have e4 : goM (takeR R m) f = [] := by unfold goM; rw [if_pos hcl]
              refine ⟨rp, by rw [e1, e3]; exact hIc hlt, ?_⟩
              rw [e1, e2, e3, e4, ← hme]
              have hnf : ¬ cntC (setC (kR n R rp).C f) (kR n R rp).n = (kR n R rp).n := by
                show ¬ cntC (setC R.C f) n = n
                rw [hset]; omega
              rcases hh with ⟨hp1, hk7⟩ | ⟨hp2, hk9⟩
              · exact rcon_go h m hm hrf rfl (fun W hW => rcon_more1 hW rfl hn7 m hm hff hfl (by show rp = 1; omega) hk7 hv hcf hLL hnf)
              · exact rcon_go h m hm hrf rfl (fun W hW => rcon_more2 hW rfl hn7 m hm hff hfl (by show rp = 2; omega) hk9 hv hcf hLL hnf)
            · have hcl : ¬ (takeR R m).cnt + 1 < (takeR R m).n := by rw [t1, t2, o2, I.rn]; omega
              have hyf : cntC (setC (kR n R rp).C f) (kR n R rp).n = (kR n R rp).n := by
                show cntC (setC R.C f) n = n
                rw [hset]; omega
              rcases hh with ⟨hp1, hk7⟩ | ⟨hp2, hk9⟩
              · have hp : (takeR R m).ph = 1 := by rw [t3]; exact hp1
                have e3 : goR (takeR R m) f = fillR (countR (takeR R m) f) := by unfold goR; rw [if_neg hcl, if_pos hp]
                have e4 : goM (takeR R m) f = sendR (fillR (countR (takeR R m) f)) true := by unfold goM; rw [if_neg hcl, if_pos hp]
                have hdn : ((countR (takeR R m) f).ph == 3) = false := by show ((takeR R m).ph == 3) = false; rw [hp]; rfl
                have e5 : fillK (takeK (kR n R rp) m) = kR n (fillR (countR (takeR R m) f)) 2 := by rw [hme]; unfold fillK kR; rw [hdn]; rfl
                have I5 : Inv n (fillR (countR (takeR R m) f)) 2 := ⟨by show (takeR R m).n = _; rw [t2]; exact I.rn, I.n7, .inr (.inl rfl), fun _ => ⟨rfl, by show (0 : Int) = ((cntC (fun _ => false) n : Nat) : Int); rw [cntC_none]; rfl, by show (takeR R m).d = 0; rw [t6]; exact o3, by show cntC (fun _ => false) n < n; rw [cntC_none]; have := I.n7; omega, by show (takeR R m).tk ≤ 39; rw [t5]; exact o5⟩, show (0 : Int) ≤ 0 ∧ (0 : Int) ≤ 1000 by decide, by show 0 ≤ (takeR R m).tk ∧ (takeR R m).tk ≤ 1000; rw [t5]; exact I.tk⟩
                refine ⟨2, by rw [e1, e3]; exact I5, ?_⟩
                rw [e1, e2, e3, e4, ← send_eq I5 true, ← e5]
                exact rcon_go h m hm hrf rfl (fun W hW => rcon_fill hW rfl hn7 m hm hff hfl (by show rp = 1; omega) hk7 hv hcf hLL hyf)
              · have hp : ¬ (takeR R m).ph = 1 := by rw [t3]; omega
                have e3 : goR (takeR R m) f = end1R (countR (takeR R m) f) 0 R.f := by unfold goR; rw [if_neg hcl, if_neg hp, t7]
                have e4 : goM (takeR R m) f = evenTo (end1R (countR (takeR R m) f) 0 R.f) n := by unfold goM; rw [if_neg hcl, if_neg hp, t7, t2, I.rn]; rfl
                have e6 : end1R (countR (takeR R m) f) 0 R.f = { endR (countR (takeR R m) f) 0 R.f with d := 1 } := by unfold end1R; rw [if_pos (show (countR (takeR R m) f).d = 0 by show (takeR R m).d = 0; rw [t6]; exact o3)]
                have e5 : doneK (takeK (kR n R rp) m) = kR n (end1R (countR (takeR R m) f) 0 R.f) 3 := by
                  rw [hme, e6]
                  unfold doneK
                  show endK { kR n (countR (takeR R m) f) rp with ph := 3 } 0 (takeR R m).f = _
                  rw [t7]
                  rfl
                have I5 : Inv n (end1R (countR (takeR R m) f) 0 R.f) 3 := by
                  rw [e6]
                  exact ⟨by show (takeR R m).n = _; rw [t2]; exact I.rn, I.n7, .inr (.inr rfl), fun h => absurd rfl h, by show 0 ≤ (takeR R m).cnt + 1 ∧ (takeR R m).cnt + 1 ≤ 1000; rw [t1, o2]; have := I.n7; omega, by show 0 ≤ (takeR R m).tk ∧ (takeR R m).tk ≤ 1000; rw [t5]; exact I.tk⟩
                have e7 : evenK (doneK (takeK (kR n R rp) m)) = evenTo (end1R (countR (takeR R m) f) 0 R.f) n := by
                  rw [e5, e6]
                  rfl
                refine ⟨3, by rw [e1, e3]; exact I5, ?_⟩
                rw [e1, e2, e3, e4, ← e5, ← e7]
                exact rcon_go h m hm hrf rfl (fun W hW => rcon_done hW rfl hn7 m hm hff hfl (by show rp = 2; omega) hk9 hv hcf hLL hyf)
          · have e1 : onR R m = R := by unfold onR swR; rw [if_neg hr, if_neg hk3, hft, if_neg hc, if_neg hh]
            have e2 : onM R m = [] := by unfold onM swM; rw [if_neg hr, if_neg hk3, hft, if_neg hc, if_neg hh]
            refine ⟨rp, by rw [e1]; exact I, ?_⟩
            rw [e1, e2]
            refine rcon_go h m hm hrf rfl (fun W hW => rcon_skip hW rfl hn7 m hm hff hfl hk3 (.inl ?_))
            intro hw
            apply hh
            unfold wantK at hw
            have hwr : (kR n R rp).ph = R.ph := o1
            rw [hwr] at hw
            rcases I.ph with h1 | h1 | h1
            · rw [if_neg (by omega)] at hw
              exact .inl ⟨h1, hw⟩
            · rw [if_pos h1] at hw
              exact .inr ⟨h1, hw⟩
            · exact absurd h1 h3
      · have hr : refB R m = true := by rw [hB]; simp [hv, hk3]
        have e1 : onR R m = R := by unfold onR; rw [if_pos hr]
        have e2 : onM R m = [] := by unfold onM; rw [if_pos hr]
        refine ⟨rp, by rw [e1]; exact I, ?_⟩
        rw [e1, e2]
        exact rcon_go h m hm hrf rfl (fun W hW => rcon_skip hW rfl hn7 m hm hff hfl hk3 (.inr (.inl hv)))
end
set_option maxRecDepth 100000 in
set_option maxHeartbeats 1600000 in
theorem sameans_any (aid ae av : Int) (w : World) : Calls Try.prog 25 #[.agg #[.int .u64 aid, .int .i64 0, .int .i64 0, .int .u64 0, .int .i64 0, .int .i64 ae, .int .u64 av, .slice none 0 0], .agg #[.int .u64 aid, .int .i64 0, .int .i64 0, .int .u64 0, .int .i64 0, .int .i64 ae, .int .u64 av, .slice none 0 0]] w fun e w' => e = .returned (.bool true) ∧ Below w.heap.size w w' := by
  have HE := hide (fun W => reqs_sl (w := W) (Sl.nil_ W) (Sl.nil_ W) (by simp))
  go_enter Try.func25, Try.ntmps25
  go_wp2_with fail
  refine (Calls.mono (HE.out _) ?_); rintro e w1 ⟨rfl, hb⟩
  have HB := hide (below_step (below_alloc (below_alloc (Below.refl w.heap.size w) _) _) hb)
  clear hb
  go_wp2_with fail
  go_ret
  exact ⟨rfl, HB.out⟩
end Go.Proofs.Ytikecafblampeaa
namespace Go.Proofs.Ytikecafblampeaa
set_option linter.unusedVariables false
set_option linter.unusedSimpArgs false
open Go.ChangeShapes Go.WideShapes Go.ChangeAt Go.RowKit
theorem Sets.weak {S T : Nat → Prop} {w w' : World} (k : Sets S w w') (h : ∀ g, S g → T g) : Sets T w w' := (Sets.refl (S := T) w).trans k (fun g _ hg => h g hg)
theorem RndO.call {w0 w w' : World} {b base p cb : Nat} {R : Rs} {K : Cs} (h : RndO w0 w b R) (hc : CallO w0 w base p cb K) (hb : b < base) (k : Sets (fun g => g = p ∨ g = cb) w w') : RndO w0 w' b R := by
  obtain ⟨v, hb1, ho⟩ := h.row
  obtain ⟨_, _, _, hp, _⟩ := hc.row
  have h1 := hc.op
  have h2 := hc.oc
  have h3 := hc.old
  refine ⟨⟨v, (k.block b h.lt (by omega)).trans hb1, ?_⟩, Sets.below h.low k (fun g hg => by omega) h.low.size, h.old⟩
  rcases ho with ho | ⟨g, cap, Q, e, hbg, hh, q1, q2, q3⟩
  · exact .inl ho
  · refine .inr ⟨g, cap, Q, e, hbg, (k.block g (Array.getElem?_eq_some_iff.1 hh).1 ?_).trans hh, q1, q2, q3⟩
    rintro (rfl | rfl)
    · rw [hp] at hh
      injection hh with hh
      injection hh with _ ht _
      exact absurd ht (by decide)
    · rw [hc.cnt] at hh
      injection hh with hh
      injection hh with _ ht _
      exact absurd ht (by decide)
theorem sendR_bd {R : Rs} (hn : R.n ≤ 7) (all : Bool) : (sendR R all).length ≤ 7 ∧ ∀ x ∈ sendR R all, x.L.length ≤ R.L.length := by
  unfold sendR
  split
  · exact ⟨by simp, fun x hx => by cases hx⟩
  · have h := sendTo_len R all R.n.toNat
    refine ⟨by omega, fun x hx => ?_⟩
    unfold sendTo at hx
    obtain ⟨j, _, rfl⟩ := List.mem_map.1 hx
    unfold toM
    show (if kindR R = 8 then R.L else []).length ≤ _
    split <;> simp
theorem takeR_L (R : Rs) (m : Mg) : (takeR R m).L.length ≤ R.L.length + m.L.length := by
  unfold takeR
  split
  · exact joinL_len R.L m.L
  · omega
theorem end1_L (R : Rs) (ee vv : Int) : (end1R R ee vv).L = R.L ∧ (end1R R ee vv).n = R.n := by
  unfold end1R
  split <;> exact ⟨rfl, rfl⟩
theorem onR_L (R : Rs) (m : Mg) : (onR R m).L.length ≤ R.L.length + m.L.length := by
  have ht := takeR_L R m
  unfold onR swR goR
  split
  · omega
  · split
    · rw [(end1_L R 21 m.n).1]; omega
    · split
      · omega
      · split
        · split
          · exact ht
          · split
            · exact ht
            · rw [(end1_L _ _ _).1]; exact ht
        · omega
theorem onM_bd {R : Rs} (hn : R.n ≤ 7) (m : Mg) : (onM R m).length ≤ 7 ∧ ∀ x ∈ onM R m, x.L.length ≤ R.L.length + m.L.length := by
  have ht := takeR_L R m
  have htn : (takeR R m).n = R.n := by unfold takeR; split <;> rfl
  have hz : ([] : List Mg).length ≤ 7 ∧ ∀ x ∈ ([] : List Mg), x.L.length ≤ R.L.length + m.L.length := ⟨by simp, fun x hx => by cases hx⟩
  unfold onM swM goM
  split
  · exact hz
  · split
    · exact hz
    · split
      · exact hz
      · split
        · split
          · exact hz
          · split
            · obtain ⟨h1, h2⟩ := sendR_bd (R := fillR (countR (takeR R m) m.f.toNat)) (by show (takeR R m).n ≤ 7; omega) true
              exact ⟨h1, fun x hx => Nat.le_trans (h2 x hx) ht⟩
            · refine ⟨by rw [evenTo_len]; omega, fun x hx => ?_⟩
              unfold evenTo at hx
              obtain ⟨j, _, rfl⟩ := List.mem_map.1 hx
              unfold toM
              show (if (10 : Int) = 8 then (end1R (countR (takeR R m) m.f.toNat) 0 (takeR R m).f).L else []).length ≤ _
              rw [if_neg (by decide)]
              simp
        · exact hz
theorem tickR_L (R : Rs) : (tickR R).L = R.L := by
  unfold tickR
  split
  · rfl
  · split
    · exact (end1_L _ _ _).1
    · rfl
theorem tickM_bd {R : Rs} (hn : R.n ≤ 7) : (tickM R).length ≤ 7 ∧ ∀ x ∈ tickM R, x.L.length ≤ R.L.length := by
  unfold tickM
  split
  · exact ⟨by simp, fun x hx => by cases hx⟩
  · split
    · exact ⟨by simp, fun x hx => by cases hx⟩
    · split
      · exact sendR_bd (R := tick1 R) hn false
      · exact ⟨by simp, fun x hx => by cases hx⟩
/-- Two rows that say the same are the same messages. -/
theorem bare_len {M N : List Mg} (h : M.map Mg.bare = N) : M.length = N.length := by rw [← h, List.length_map]
theorem bare_items {M N : List Mg} {q : Nat} (h : M.map Mg.bare = N) (hN : ∀ x ∈ N, x.L.length ≤ q) : ∀ x ∈ M, x.L.length ≤ q := fun x hx => by
  have h1 : x.bare ∈ N := by rw [← h]; exact List.mem_map.2 ⟨x, hx, rfl⟩
  have h2 := hN _ h1
  exact h2
/-- A row of items does not lie in a Call's block. -/
theorem items_not_call {w : World} {p cb : Nat} {K : Cs} {vi vg va : Value} {A : Option Addr} {L : List It} (hb : w.heap[p]? = some (.cells (csL K cb vi vg va).toArray 60 (0, 0))) (hva : ∃ x y z, va = .slice x y z) (h : ItemsAt w A L) (hL : L ≠ []) : ∀ a, A = some a → a.block ≠ p := by
  intro a ha e
  obtain ⟨vx, vy, vz, hve⟩ := hva
  rw [hve] at hb
  obtain ⟨b, off, e2, hlt, hc⟩ := h hL
  rw [ha] at e2
  obtain rfl := Option.some.inj e2
  have e : b = p := e
  subst e
  have h0 : 0 < L.length := List.length_pos_iff.2 hL
  have key : ∀ j u, (It.cells L[0])[j]? = some u → (csL K cb vi vg (.slice vx vy vz))[off + j]? = some u := fun j u hu => by
    have h1 := hc 0 h0 j u hu
    rw [Nat.zero_mul, Nat.add_zero] at h1
    rw [cell_of_list (o := off + j) hb] at h1
    exact h1
  have k0 := key 0 _ rfl
  have k1 := key 1 _ rfl
  have k2 := key 2 _ rfl
  have k3 := key 3 _ rfl
  have hoff : off < 23 := by
    by_cases h : off < 23
    · exact h
    · rw [List.getElem?_eq_none (by simp [csL]; omega)] at k0
      cases k0
  have : off = 0 ∨ off = 1 ∨ off = 2 ∨ off = 3 ∨ off = 4 ∨ off = 5 ∨ off = 6 ∨ off = 7 ∨ off = 8 ∨ off = 9 ∨ off = 10 ∨ off = 11 ∨ off = 12 ∨ off = 13 ∨ off = 14 ∨ off = 15 ∨ off = 16 ∨ off = 17 ∨ off = 18 ∨ off = 19 ∨ off = 20 ∨ off = 21 ∨ off = 22 := by omega
  rcases this with rfl | rfl | rfl | rfl | rfl | rfl | rfl | rfl | rfl | rfl | rfl | rfl | rfl | rfl | rfl | rfl | rfl | rfl | rfl | rfl | rfl | rfl | rfl <;> simp [csL] at k0 k1 k2 k3
/-- What a round's Tick told stays under what the Call's Tick writes. -/
theorem rd_call {w0 w w' : World} {base p cb : Nat} {K : Cs} {x : Mg} (hc : CallO w0 w base p cb K) (h : x.rd w) (k : Sets (fun g => g = p) w w') : x.rd w' := by
  obtain ⟨vi, vg, va, hb, _, _, ⟨⟨Av, cv, e, _⟩, _⟩⟩ := hc.row
  by_cases hL : x.L = []
  · refine ⟨?_, h.2⟩
    rw [hL]
    exact RowAt.nil_
  · have hn := items_not_call hb ⟨_, _, _, e⟩ h.1 hL
    exact ⟨row_sets h.1 k (fun a ha => hn a ha), h.2⟩
set_option maxRecDepth 100000 in
set_option maxHeartbeats 1600000 in
theorem sameans_two (aid ae av : Int) (sa : Option Addr) (sc : Nat) (hsc : sc ≤ maxLen) (w : World) : Calls Try.prog 25 #[.agg #[.int .u64 aid, .int .i64 0, .int .i64 0, .int .u64 0, .int .i64 0, .int .i64 ae, .int .u64 av, .slice none 0 0], .agg #[.int .u64 aid, .int .i64 0, .int .i64 0, .int .u64 0, .int .i64 0, .int .i64 ae, .int .u64 av, .slice sa 0 sc]] w fun e w' => e = .returned (.bool true) ∧ Below w.heap.size w w' := by
  have HE := hide (fun W => reqs_sl (w := W) (u := .slice sa 0 sc) (Sl.nil_ W) ⟨sa, sc, rfl, RowAt.nil_, Nat.zero_le _, hsc⟩ (by simp))
  clear hsc
  go_enter Try.func25, Try.ntmps25
  go_wp2_with fail
  refine (Calls.mono (HE.out _) ?_); rintro e w1 ⟨rfl, hb⟩
  have HB := hide (below_step (below_alloc (below_alloc (Below.refl w.heap.size w) _) _) hb)
  clear hb
  go_wp2_with fail
  go_ret
  exact ⟨rfl, HB.out⟩
end Go.Proofs.Ytikecafblampeaa
