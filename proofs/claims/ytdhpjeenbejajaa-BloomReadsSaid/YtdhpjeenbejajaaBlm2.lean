/- (*clepsydra/bloom.Filter).Add: a contract. Conditions: typed at it. -/
import Derived.Test.YtdhpjeenbejajaaBlm
import Derived.StillTailTactics
import Derived.Laws.BitsAllLaws
namespace Go.Proofs.Ytdhpjeenbejajaa
set_option linter.unusedVariables false
set_option linter.unusedSimpArgs false
open Go.ChangeShapes Go.WideShapes Go.ChangeAt Go.RowKit

/-- A byte with its i-th bit set. -/
def orB (b : Int) (i : Nat) : Int := bits .or .u8 b (2 ^ i % 256)
def setP (B : List Int) (q : Int) : List Int := B.set (q / 8).toNat (orB (B[(q / 8).toNat]?.getD 0) (q % 8).toNat)
theorem orB_eq {b : Int} (hb : isB b) (i : Nat) (hi : i < 8) : orB b i = ((b.toNat ||| 2 ^ i : Nat) : Int) := by
  unfold isB at hb
  have h2 : (2 : Int) ^ i % 256 = ((2 ^ i : Nat) : Int) := by
    have : i = 0 ∨ i = 1 ∨ i = 2 ∨ i = 3 ∨ i = 4 ∨ i = 5 ∨ i = 6 ∨ i = 7 := by omega
    rcases this with rfl | rfl | rfl | rfl | rfl | rfl | rfl | rfl <;> decide
  have h3 : 2 ^ i < 2 ^ 8 := Nat.pow_lt_pow_right (by omega) hi
  unfold orB
  rw [h2, u8_or b _ hb.1 (by omega) (by omega) (by omega), Int.toNat_natCast]
theorem orB_isB {b : Int} (hb : isB b) {i : Nat} (hi : i < 8) : isB (orB b i) := by
  rw [orB_eq hb i hi]
  unfold isB at *
  have h3 : 2 ^ i < 2 ^ 8 := Nat.pow_lt_pow_right (by omega) hi
  have := Nat.or_lt_two_pow (x := b.toNat) (y := 2 ^ i) (n := 8) (by omega) h3
  omega
theorem getD_isB {B : List Int} (hB : ∀ b ∈ B, isB b) (m : Nat) : isB (B[m]?.getD 0) := by
  cases h : B[m]? with
  | none => simp [isB]
  | some b => exact hB b (List.mem_of_getElem? h)
theorem heap_setB {w : World} {g o : Nat} {l : List Value} {t : TypeId} {u : Value} (h : w.heap[g]? = some (.cells l.toArray t (0, 0))) : (w.setCell ⟨g, o, none⟩ u).heap[g]? = some (.cells (l.set o u).toArray t (0, 0)) := by
  simp [World.setCell, Array.getElem?_modify, h]
theorem grownBy_setCell (w : World) (g o : Nat) (u : Value) : w.grownBy (w.setCell ⟨g, o, none⟩ u) (some g) :=
  ⟨rfl, rfl, rfl, by simp [World.setCell], fun k _ hk => Below.heap_setCell _ _ _ _ (fun e => hk (by rw [e]))⟩
theorem Flt.put {w : World} {p g k : Nat} {B : List Int} (h : Flt w p g k B) (m : Nat) {x : Int} (hx : isB x) : Flt (w.setCell ⟨g, m, none⟩ (.int .u8 x)) p g k (B.set m x) where
  st := by rw [Below.heap_setCell _ _ _ _ h.ne, h.st, List.length_set]
  bl := by rw [List.map_set]; exact heap_setB h.bl
  ne := h.ne
  k1 := h.k1
  len := by rw [List.length_set]; exact h.len
  byt := fun b hb => by
    rcases List.mem_or_eq_of_mem_set hb with h1 | rfl
    · exact h.byt b h1
    · exact hx
def addL (B ps : List Int) : List Int := ps.foldl setP B
theorem addL_snoc (B ps : List Int) (q : Int) : addL B (ps ++ [q]) = setP (addL B ps) q := by simp [addL]
theorem setP_len (B : List Int) (q : Int) : (setP B q).length = B.length := by simp [setP]
theorem addL_len (B ps : List Int) : (addL B ps).length = B.length := by
  unfold addL
  induction ps generalizing B with
  | nil => rfl
  | cons q ps ih => rw [List.foldl_cons, ih, setP_len]

set_option maxHeartbeats 1000000 in
theorem add_any {p g k : Nat} {B : List Int} (A : Option Addr) (c : Nat) (L : List Int) (w : World) (hF : Flt w p g k B) (hl : L.length ≤ 9223372036854775807) (hL : ValsAt u8v w A L) (hB : ∀ b ∈ L, isB b) :
    Calls Try.prog 11 #[.pointer (some ⟨p, 0, none⟩), .slice A L.length c] w fun e w' => e = .returned (.tuple #[]) ∧ Flt w' p g k (addL B (placesL (hashL L) B.length k)) ∧ w.grownBy w' (some g) := by
  have HP := hide (places_any A c L w hF hl hL hB)
  have hpb := placesL_bd (h := hashL L) (n := B.length) (k := k) (by have := hF.len; omega)
  have HF := hide hF
  clear hF hL hB
  generalize hps : placesL (hashL L) B.length k = ps at *
  have hpl : ps.length = k := by rw [← hps]; simp [placesL]
  clear hps
  go_enter Try.func11, Try.ntmps11
  go_wp2_with fail
  refine (Calls.mono HP.out ?_); rintro e w1 ⟨v, rfl, ho, hg1⟩
  obtain ⟨hlp, hlg⟩ := HF.out.lt
  have HF1 := hide (HF.out.below hg1)
  have hk1 := HF.out.k1
  obtain ⟨A1, c1, rfl, hr1, hab, _, _⟩ := OwnL.row (cells := one1 i64v) (fun _ => rfl) ho
  have HR := hide hr1
  have hsz1 := hg1.size
  have HGW := hide (grownBy_below (row := some g) hg1)
  clear HP hg1 ho hr1
  go_wp2_with fail
  go_loopw [10] (fun i wr => ∃ j : Nat, j ≤ ps.length ∧ i = .int .i64 j ∧ Flt wr p g k (addL B (ps.take j)) ∧ w1.grownBy wr (some g)) (fun i _ => ps.length - (intOf i).toNat)
  case atStart => exact ⟨0, by omega, rfl, HF1.out, World.grownBy.refl _ _⟩
  case round =>
    obtain ⟨j, hj, rfl, hf, hg⟩ := hrel
    have HG := hide hg
    obtain ⟨f0, f1⟩ := hf.cells
    have hfb := hf.bl
    have HF2 := hide hf
    have hlen : (addL B (ps.take j)).length = B.length := addL_len _ _
    have HLN := hide hlen
    clear hf hlen
    by_cases hlt : j < ps.length
    · obtain ⟨b, off, rfl, hbb, c0⟩ := RowAt.one (val := i64v) HR.out (Below.refl w1.heap.size w1) hlt
      have hbg : g ≠ b := by have := (hab _ _ _ rfl).1; omega
      have c0 := (row_far (row := some g) hg c0 (by intro e; injection e with e; omega))
      have hq := hpb ps[j] (List.getElem_mem hlt)
      generalize hQ : ps[j] = q at *
      generalize hC : addL B (ps.take j) = C at *
      rw [HLN.out] at f1
      clear hab hg
      obtain ⟨m, hm⟩ : ∃ m : Nat, q / 8 = m := ⟨(q / 8).toNat, by omega⟩
      obtain ⟨r, hr⟩ : ∃ r : Nat, q % 8 = r := ⟨(q % 8).toNat, by omega⟩
      have hmn : m < B.length := by omega
      have hr8 : r < 8 := by omega
      have f2 : wr.cell? ⟨g, m, none⟩ = some (.int .u8 (C.getD m 0)) := by
        rw [cell_of_row wr g m _ _ _ hfb]
        have : m < C.length := by rw [HLN.out]; exact hmn
        simp [this]
      have hfz := row_free hfb
      have c0 : wr.cell? ⟨b, off + j, none⟩ = some (.int .i64 q) := c0
      have hd : IntKind.i64.wrap (q.tdiv 8) = (m : Int) := by
        rw [Int.tdiv_eq_ediv_of_nonneg hq.1, hm]
        rw [IntKind.wrap_i64]; have := HF.out.len; omega
      have hd2 : q.tmod 8 = (r : Int) := by rw [Int.tmod_eq_emod_of_nonneg hq.1, hr]
      have hmn2 : (m : Int) < (B.length : Int) := by omega
      have HST : Hid (setP C q = C.set m (orB (C[m]?.getD 0) r)) := hide (by unfold setP; rw [hm, hr]; simp)
      clear hm hr hq
      go_wp2_with fail
      go_still_tail 13, (by kernel_rfl)
      obtain ⟨W, hW⟩ : ∃ W, wr.drew = W := ⟨_, rfl⟩
      have hWb : Below wr.heap.size wr W := by rw [← hW]; exact (Below.refl _ _).drew
      have f2 := (hWb.cell (p := ⟨g, m, none⟩) (HF2.out.lt).2).trans f2
      have hfz := row_free ((hWb.block g (HF2.out.lt).2).trans hfb)
      have HF3 := hide (HF2.out.below hWb)
      have HGB := hide (grownBy_trans HG.out (grownBy_below (row := some g) hWb))
      clear hfb f0 f1
      refine (?_ : wpList _ _ _ _ _ wr.drew)
      rw [hW]
      clear hW hWb
      have hax : ps.take (j + 1) = ps.take j ++ [q] := by rw [take_snoc hlt, hQ]
      have HAX := hide hax
      clear hax
      go_wp2_with fail
      have hxb := orB_isB (getD_isB HF3.out.byt m) hr8
      have hfn := HF3.out.put m hxb
      have hst2 : C.set m (orB (C[m]?.getD 0) r) = addL B (ps.take (j + 1)) := by rw [← HST.out, ← hC, ← addL_snoc, ← HAX.out]
      rw [hst2] at hfn
      exact ⟨⟨j + 1, by omega, by go_num, hfn, grownBy_trans HGB.out (grownBy_setCell _ _ _ _)⟩, by simp [intOf]; omega⟩
    · have ht : ps.take j = ps := List.take_of_length_le (by omega)
      have hf2 := HF2.out
      rw [ht] at hf2
      have HF3 := hide hf2
      clear hf2
      go_wp2_with fail
      go_end0
      exact ⟨rfl, HF3.out, grownBy_trans HGW.out HG.out⟩
end Go.Proofs.Ytdhpjeenbejajaa
