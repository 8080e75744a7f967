/- merge.hider: the deletes of a list in a map; the function value that it returns. Conditions: the list readable, its items typed. -/
import Derived.Test.YtfmckinlgaejeaaRows5
import Derived.Test.YtfmckinlgaejeaaDel
import Derived.Maps.OwnSet
namespace Go.Proofs.Ytfmckinlgaejeaa
set_option linter.unusedVariables false
set_option linter.unusedSimpArgs false
open Go.ChangeShapes Go.WideShapes Go.ChangeAt Go.RowKit

/-- One item more: the greatest delete of each series. -/
def stepF (f : Int → Option Int) (x : It) : Int → Option Int := fun s => if x.k = 1 ∧ x.s = s then some (max ((f s).getD 0) x.v) else f s
def tombF (L : List It) : Int → Option Int := L.foldl stepF (fun _ => none)
theorem tombF_snoc {L : List It} {k : Nat} (hk : k < L.length) : tombF (L.take (k + 1)) = stepF (tombF (L.take k)) L[k] := by
  unfold tombF
  rw [List.take_succ_eq_append_getElem hk, List.foldl_append]
  rfl
theorem wfI {a : Int} (h : -9223372036854775808 ≤ a ∧ a ≤ 9223372036854775807) : (Lit.int .i64 a).wf = true := by
  unfold Lit.wf
  rw [Bool.and_eq_true, decide_eq_true_iff, decide_eq_true_iff]
  exact h
theorem wfU {a : Int} (h : 0 ≤ a ∧ a ≤ 18446744073709551615) : (Lit.int .u64 a).wf = true := by
  unfold Lit.wf
  rw [Bool.and_eq_true, decide_eq_true_iff, decide_eq_true_iff]
  exact h
/-- A map from series to versions. -/
def MapF (w : World) (b n : Nat) (f : Int → Option Int) : Prop := ∃ D : DataW Unit, w.ownsMap Try.prog 3 (plainElem Try.prog 26) b n D ∧
  ∀ s : Int, Maps.has D (.int .i64 s) = (f s).isSome ∧ D.atKey (.int .i64 s) (.lit (.int .u64 0)) = .lit (.int .u64 ((f s).getD 0)) ∧ 0 ≤ (f s).getD 0 ∧ (f s).getD 0 ≤ 18446744073709551615
theorem mapK : Maps.Keyed Try.prog 3 := Maps.int_keyed Try.underlying3
theorem zeroU (w : World) : (zeroValue 26).run Try.prog w = .ok (.int .u64 0) w := by kernel_rfl
theorem MapF.made (w : World) : MapF (w.alloc (.map #[] 0)) w.heap.size 0 (fun _ => none) :=
  ⟨_, World.ownsMap_made w _ _ _, fun s => ⟨rfl, rfl, by simp, by simp⟩⟩
theorem MapF.grown {w w' : World} {b n : Nat} {f : Int → Option Int} {row : Option Nat} (h : MapF w b n f) (hg : w.grownBy w' row) (hne : some b ≠ row) : MapF w' b n f := by
  obtain ⟨D, h1, h2⟩ := h
  exact ⟨D, h1.kept hg hne, h2⟩
theorem MapF.below {w w' : World} {b n : Nat} {f : Int → Option Int} (h : MapF w b n f) (hb : Below w.heap.size w w') : MapF w' b n f := h.grown (row := none) (grownBy_below hb) (by simp)
theorem MapF.lt {w : World} {b n : Nat} {f : Int → Option Int} (h : MapF w b n f) : b < w.heap.size := by
  obtain ⟨D, h1, _⟩ := h
  exact h1.lt
theorem MapF.look {w : World} {b n : Nat} {f : Int → Option Int} (h : MapF w b n f) (s : Int) (hs : (Lit.int .i64 s).wf = true) :
    (Instr.lookup 64 (.map (some b)) (.int .i64 s) false).run Try.prog w = .ok (.int .u64 ((f s).getD 0)) w := by
  obtain ⟨D, h1, h2⟩ := h
  obtain ⟨c, hrun, hat, _⟩ := h1.lookup_int mapK Try.underlying64 Try.underlying26 (zeroU w) (Maps.keyOf_int_mk Try.underlying3 hs)
  rw [(h2 s).2.1] at hat
  simp at hat
  rw [hrun, hat]
theorem MapF.look_ok {w : World} {b n : Nat} {f : Int → Option Int} (h : MapF w b n f) (s : Int) (hs : (Lit.int .i64 s).wf = true) :
    (Instr.lookup 64 (.map (some b)) (.int .i64 s) true).run Try.prog w = .ok (.tuple #[.int .u64 ((f s).getD 0), .bool (f s).isSome]) w := by
  obtain ⟨D, h1, h2⟩ := h
  obtain ⟨v, ps, hrun, hv⟩ := h1.look_ok mapK Try.underlying64 (zeroU w) (plainElem_int Try.underlying26 (by decide)) (Maps.keyOf_int_mk Try.underlying3 hs)
  obtain ⟨c, rfl, hc, _⟩ := plainElem_int_inv Try.underlying26 hv
  rw [(h2 s).2.1] at hc
  simp at hc
  rw [hrun, (h2 s).1, hc.1]
theorem MapF.put {w : World} {b n : Nat} {f : Int → Option Int} (h : MapF w b n f) (s v : Int) (hs : (Lit.int .i64 s).wf = true) (hv : (Lit.int .u64 v).wf = true) (hv0 : 0 ≤ v) (hv1 : v ≤ 18446744073709551615) (hn : n < maxLen) :
    ∃ w', (Instr.mapUpdate 64 (.map (some b)) (.int .i64 s) (.int .u64 v)).run Try.prog w = .ok () w' ∧ MapF w' b (n + 1) (fun t => if t = s then some v else f t) ∧ w.grownBy w' (some b) := by
  obtain ⟨D, h1, h2⟩ := h
  obtain ⟨w', hrun, h3, hg⟩ := h1.update mapK Try.underlying64 hn (Maps.keyOf_int_mk Try.underlying3 hs) (plainElem_int Try.underlying26 hv)
  refine ⟨w', hrun, ⟨_, h3, fun t => ?_⟩, hg⟩
  by_cases e : t = s
  · subst e
    dsimp only
    rw [if_pos rfl]
    exact ⟨Maps.has_put_same h1.isMap (show WideAt.IsKeyLit (.int .i64 t) from trivial) _, Maps.atKey_put_same h1.isMap (show WideAt.IsKeyLit (.int .i64 t) from trivial) _ _, hv0, hv1⟩
  · dsimp only
    rw [if_neg e]
    have hne : (Lit.int .i64 t) ≠ (Lit.int .i64 s) := fun h => e (by injection h)
    exact ⟨(Maps.has_put_other hne _).trans (h2 t).1, (Maps.atKey_put_other hne _ _).trans (h2 t).2.1, (h2 t).2.2⟩
theorem MapF.bd {w : World} {b n : Nat} {f : Int → Option Int} (h : MapF w b n f) (s : Int) : 0 ≤ (f s).getD 0 ∧ (f s).getD 0 ≤ 18446744073709551615 := by
  obtain ⟨D, _, h2⟩ := h
  exact (h2 s).2.2
theorem gcellM {w w' : World} {m : Nat} (hg : w.grownBy w' (some m)) {b : Nat} (hb : b < w.heap.size) (hne : b ≠ m) (o : Nat) : w'.cell? ⟨b, o, none⟩ = w.cell? ⟨b, o, none⟩ := World.cell?_of_block (hg.block b hb (fun e => hne (by injection e)))
/-- Whether a delete hides an item. -/
def hidT (f : Int → Option Int) (x : It) : Bool := (f x.s).isSome && decide (x.k = 2) && decide (x.v ≤ (f x.s).getD 0)
set_option maxRecDepth 100000 in
set_option maxHeartbeats 1600000 in
theorem clos_any (g b n : Nat) (f : Int → Option Int) (x : It) (w : World) (hx : x.wf) (hg : w.cell? ⟨g, 0, none⟩ = some (.map (some b))) (hgl : g < w.heap.size) (hM : MapF w b n f) :
    Calls Try.prog 40 #[x.val, .pointer (some ⟨g, 0, none⟩)] w fun e w' => e = .returned (.bool (hidT f x)) ∧ Below w.heap.size w w' := by
  have hb := below_alloc (Below.refl w.heap.size w) (.cells x.cells.toArray 28)
  have hlk : (Instr.lookup 64 (.map (some b)) (.int .i64 x.s) true).run Try.prog (w.alloc (.cells #[.int .i64 x.s, .int .i64 x.k, .int .u64 x.t, .int .u64 x.v, .int .i64 x.x] 28)) = .ok (.tuple #[.int .u64 ((f x.s).getD 0), .bool (f x.s).isSome]) (w.alloc (.cells #[.int .i64 x.s, .int .i64 x.k, .int .u64 x.t, .int .u64 x.v, .int .i64 x.x] 28)) := (hM.below hb).look_ok x.s (wfI (by unfold It.wf at hx; omega))
  have hbd := hM.bd x.s
  have hh : hidT f x = ((f x.s).isSome && decide (x.k = 2) && decide (x.v ≤ (f x.s).getD 0)) := rfl
  have hne : g ≠ w.heap.size := by omega
  have HB := hide hb
  have HH := hide hh
  clear hM hx hb hh
  generalize (f x.s).getD 0 = v at *
  generalize (f x.s).isSome = o at *
  cases o with
  | false =>
    go_enter Try.func40, Try.ntmps40
    go_wp2_with fail
    go_ret
    exact ⟨by rw [HH.out]; rfl, HB.out⟩
  | true =>
    by_cases hk : x.k = 2
    · by_cases hv : x.v ≤ v
      · have d1 : decide (x.k = 2) = true := decide_eq_true hk
        have d2 : decide (x.v ≤ v) = true := decide_eq_true hv
        rw [d1, d2] at HH
        have hkb : (x.k == 2) = true := beq_iff_eq.2 hk
        clear hk
        go_enter Try.func40, Try.ntmps40
        go_wp2_with fail
        go_ret
        exact ⟨by rw [HH.out]; rfl, HB.out⟩
      · have d1 : decide (x.k = 2) = true := decide_eq_true hk
        have d2 : decide (x.v ≤ v) = false := decide_eq_false hv
        rw [d1, d2] at HH
        have hkb : (x.k == 2) = true := beq_iff_eq.2 hk
        clear hk
        go_enter Try.func40, Try.ntmps40
        go_wp2_with fail
        go_ret
        exact ⟨by rw [HH.out]; rfl, HB.out⟩
    · have d1 : decide (x.k = 2) = false := decide_eq_false hk
      rw [d1] at HH
      have hkb : (x.k == 2) = false := beq_eq_false_iff_ne.2 hk
      go_enter Try.func40, Try.ntmps40
      go_wp2_with fail
      go_ret
      exact ⟨by rw [HH.out]; simp, HB.out⟩
set_option maxRecDepth 100000 in
set_option maxHeartbeats 3200000 in
theorem hider_any (A : Option Addr) (c : Nat) (L : List It) (w : World) (hL : ItemsAt w A L) (hw : ∀ x ∈ L, x.wf) (hl : L.length ≤ 1099511627776) :
    Calls Try.prog 31 #[.slice A L.length c] w fun e w' => ∃ g b n, e = .returned (.func (.func 40) #[] #[.pointer (some ⟨g, 0, none⟩)]) ∧ w'.cell? ⟨g, 0, none⟩ = some (.map (some b)) ∧ MapF w' b n (tombF L) ∧ w.heap.size ≤ g ∧ w.heap.size ≤ b ∧ g < w'.heap.size ∧ Below w.heap.size w w' := by
  have hm0 : MapF ((w.alloc (.map #[] 0)).alloc (.cells #[.map (some w.heap.size)] 64)) w.heap.size 0 (fun _ => none) := (MapF.made w).below (below_alloc (Below.refl _ _) _)
  have hg0 : ((w.alloc (.map #[] 0)).alloc (.cells #[.map (some w.heap.size)] 64)).cell? ⟨w.heap.size + 1, 0, none⟩ = some (.map (some w.heap.size)) := by
    have := heap_alloc_new (w.alloc (.map #[] 0)) (.cells #[.map (some w.heap.size)] 64)
    simp only [World.size_alloc] at this
    exact (cell_of_row _ _ 0 _ _ _ this).trans rfl
  have hb0 := below_alloc (below_alloc (Below.refl w.heap.size w) (.map #[] 0)) (.cells #[.map (some w.heap.size)] 64)
  have HM0 := hide hm0
  have HG0 := hide hg0
  have HB0 := hide hb0
  have HL := hide hL
  have HW := hide hw
  clear hm0 hg0 hb0 hL hw
  have hmk := run_makeMap (P := Try.prog) 64 w
  go_enter Try.func31, Try.ntmps31
  go_wp2_with fail
  -- LOOP
  go_loopw [9] (fun i wr => ∃ k : Nat, i = .int .i64 k ∧ k ≤ L.length ∧ wr.cell? ⟨w.heap.size + 1, 0, none⟩ = some (.map (some w.heap.size)) ∧ w.heap.size + 1 < wr.heap.size ∧ (∃ n, n ≤ k ∧ MapF wr w.heap.size n (tombF (L.take k))) ∧ Below w.heap.size w wr) (fun i _ => L.length - (intOf i).toNat)
  case atStart => exact ⟨0, rfl, by omega, HG0.out, by simp, ⟨0, by omega, HM0.out⟩, HB0.out⟩
  case round =>
    clear HM0 HG0 HB0
    obtain ⟨k, rfl, hk, hg, hgl, ⟨n, hn, hm⟩, hb⟩ := hrel
    by_cases hlt : k < L.length
    · obtain ⟨bi, oi, rfl, hbi, y0, y1, y2, y3, y4⟩ := ItemsAt.item HL.out hb hlt
      have hx := HW.out L[k] (List.getElem_mem _)
      have hts := tombF_snoc hlt
      have hbiw : bi < wr.heap.size := Nat.lt_of_lt_of_le hbi hb.size
      generalize L[k] = x at *
      have hltI : (k : Int) < (L.length : Int) := by omega
      have hba := below_alloc (Below.refl wr.heap.size wr) (.cells #[.int .i64 x.s, .int .i64 x.k, .int .u64 x.t, .int .u64 x.v, .int .i64 x.x] 28)
      have hxs := wfI (show -9223372036854775808 ≤ x.s ∧ x.s ≤ 9223372036854775807 by unfold It.wf at hx; omega)
      by_cases hk1 : x.k = 1
      · have hkb : (x.k == 1) = true := beq_iff_eq.2 hk1
        have hlk : (Instr.lookup 64 (.map (some w.heap.size)) (.int .i64 x.s) false).run Try.prog (wr.alloc (.cells #[.int .i64 x.s, .int .i64 x.k, .int .u64 x.t, .int .u64 x.v, .int .i64 x.x] 28)) = .ok (.int .u64 ((tombF (L.take k) x.s).getD 0)) (wr.alloc (.cells #[.int .i64 x.s, .int .i64 x.k, .int .u64 x.t, .int .u64 x.v, .int .i64 x.x] 28)) := (hm.below hba).look x.s hxs
        have hbd := hm.bd x.s
        obtain ⟨w5, hput, hm5, hg5⟩ := (hm.below hba).put x.s (max ((tombF (L.take k) x.s).getD 0) x.v) hxs (wfU (by unfold It.wf at hx; omega)) (by unfold It.wf at hx; omega) (by unfold It.wf at hx; omega) (by unfold maxLen; omega)
        have HST : Hid (tombF (L.take (k + 1)) = fun t => if t = x.s then some (max ((tombF (L.take k) x.s).getD 0) x.v) else tombF (L.take k) t) := hide (by
          rw [hts]
          funext t
          unfold stepF
          by_cases e : t = x.s
          · subst e; rw [if_pos ⟨hk1, rfl⟩, if_pos rfl]
          · rw [if_neg e, if_neg (fun h => e h.2.symm)])
        rw [hk1] at hlk hput hg5 hba
        have HM5 := hide hm5
        have HG5 := hide hg5
        have hne1 : w.heap.size + 1 ≠ wr.heap.size := by omega
        have HB := hide (below_step hb hba)
        have HGC := hide hg
        have HGC2 : Hid ((wr.alloc (.cells #[.int .i64 x.s, .int .i64 1, .int .u64 x.t, .int .u64 x.v, .int .i64 x.x] 28)).cell? ⟨w.heap.size + 1, 0, none⟩ = some (.map (some w.heap.size))) := hide ((hba.cell (p := ⟨_, 0, none⟩) hgl).trans hg)
        clear hm5 hg5 hts hm hb hba hx
        generalize (tombF (L.take k) x.s).getD 0 = v at *
        have hmxd : ∀ a b : Int, a < b → max a b = b := fun a b h => by omega
        have hmxe : ∀ a b : Int, ¬ a < b → max a b = a := fun a b h => by omega
        by_cases hmx : v < x.v
        · rw [hmxd _ _ hmx] at hput
          have hmx2 : ¬ x.v < v := by omega
          have hmx3 : ¬ x.v ≤ v := by omega
          clear hmxd hmxe
          go_wp2_with fail
          go_roundw
          case rel => exact ⟨k + 1, by go_num, by omega, (gcellM HG5.out (by simp; omega) (by omega) 0).trans HGC2.out, Nat.lt_of_lt_of_le (by simp; omega) HG5.out.size, ⟨n + 1, by omega, by rw [HST.out]; exact HM5.out⟩, HB.out.grown HG5.out (by simp; omega) (fun q hq => by injection hq with hq; omega)⟩
          case measure => (simp [intOf] <;> omega)
        · rw [hmxe _ _ hmx] at hput
          have hmx3 : x.v ≤ v := by omega
          clear hmxd hmxe
          go_wp2_with fail
          go_roundw
          case rel => exact ⟨k + 1, by go_num, by omega, (gcellM HG5.out (by simp; omega) (by omega) 0).trans HGC2.out, Nat.lt_of_lt_of_le (by simp; omega) HG5.out.size, ⟨n + 1, by omega, by rw [HST.out]; exact HM5.out⟩, HB.out.grown HG5.out (by simp; omega) (fun q hq => by injection hq with hq; omega)⟩
          case measure => (simp [intOf] <;> omega)
      · have hkb : (x.k == 1) = false := beq_eq_false_iff_ne.2 hk1
        have HST : Hid (tombF (L.take (k + 1)) = tombF (L.take k)) := hide (by
          rw [hts]
          funext t
          unfold stepF
          rw [if_neg (fun h => hk1 h.1)])
        have HM := hide (hm.below hba)
        have HB := hide (below_step hb hba)
        have HG : Hid ((wr.alloc (.cells #[.int .i64 x.s, .int .i64 x.k, .int .u64 x.t, .int .u64 x.v, .int .i64 x.x] 28)).cell? ⟨w.heap.size + 1, 0, none⟩ = some (.map (some w.heap.size))) := hide ((hba.cell (p := ⟨_, 0, none⟩) hgl).trans hg)
        clear hts hm hb hba hx
        go_wp2_with fail
        go_roundw
        case rel => exact ⟨k + 1, by go_num, by omega, HG.out, by simp; omega, ⟨n, by omega, by rw [HST.out]; exact HM.out⟩, HB.out⟩
        case measure => (simp [intOf] <;> omega)
    · obtain rfl : k = L.length := by omega
      have hge : ¬ (L.length : Int) < (L.length : Int) := by omega
      have HM := hide hm
      have HB := hide hb
      rw [List.take_length] at HM
      clear hm hb
      have hg2 := hg
      go_wp2_with fail
      go_ret
      exact ⟨_, rfl, _, hg2, ⟨_, HM.out⟩, by omega, Nat.le_refl _, hgl, HB.out⟩
end Go.Proofs.Ytfmckinlgaejeaa
