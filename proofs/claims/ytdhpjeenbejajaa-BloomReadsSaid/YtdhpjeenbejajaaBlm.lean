/- clepsydra/bloom and clepsydra/sum.Hash: contracts. Conditions: typed at each. -/
import Derived.Test.YtdhpjeenbejajaaIdxI
namespace Go.Proofs.Ytdhpjeenbejajaa
set_option linter.unusedVariables false
set_option linter.unusedSimpArgs false
open Go.ChangeShapes Go.WideShapes Go.ChangeAt Go.RowKit

theorem Try.infoInt : (Try.prog.info? 3).map (fun i => (i.zero, i.size, i.bytes)) = some (some (.int .i64 0), 1, 8) := by kernel_rfl

def isB (b : Int) : Prop := 0 ≤ b ∧ b ≤ 255
def hashS (h c : Int) : Int := IntKind.u64.wrap (bits .xor .u64 h c * 1099511628211)
def hashL (L : List Int) : Int := L.foldl hashS 14695981039346656037
theorem hashL_snoc (L : List Int) (c : Int) : hashL (L ++ [c]) = hashS (hashL L) c := by simp [hashL]
theorem hashL_bd (L : List Int) : 0 ≤ hashL L ∧ hashL L < 18446744073709551616 := by
  rcases List.eq_nil_or_concat L with rfl | ⟨M, c, rfl⟩
  · decide
  · rw [List.concat_eq_append, hashL_snoc]; unfold hashS; exact ⟨Int.emod_nonneg _ (by decide), Int.emod_lt_of_pos _ (by decide)⟩

set_option maxHeartbeats 400000 in
theorem hash_any (A : Option Addr) (c : Nat) (L : List Int) (w : World) (hl : L.length ≤ 9223372036854775807) (hL : ValsAt u8v w A L) (hB : ∀ b ∈ L, isB b) :
    Calls Try.prog 32 #[.slice A L.length c] w fun e w' => e = .returned (.int .u64 (hashL L)) ∧ Below w.heap.size w w' := by
  go_enter Try.func32, Try.ntmps32
  go_wp2
  go_loopw [3, 8] (fun h i wr => ∃ k : Nat, k ≤ L.length ∧ i = .int .i64 k ∧ h = .int .u64 (hashL (L.take k)) ∧ Below w.heap.size w wr) (fun _ i _ => L.length - (intOf i).toNat)
  case atStart => exact ⟨0, by omega, rfl, rfl, Below.refl _ _⟩
  case round =>
    obtain ⟨k, hk, rfl, rfl, hb⟩ := hrel
    by_cases hlt : k < L.length
    · obtain ⟨b, off, rfl, hbb, c0⟩ := RowAt.one hL hb hlt
      have h1 := hB L[k] (List.getElem_mem hlt)
      have h2 : hashL (L.take (k + 1)) = hashS (hashL (L.take k)) L[k] := by rw [take_snoc hlt, hashL_snoc]
      have h3 := hashL_bd (L.take k)
      generalize L[k] = x at *
      unfold isB at h1
      have H2 := hide h2
      clear h2
      generalize hashL (L.take k) = h at *
      have e1 : (x : Int) % 18446744073709551616 = x := by omega
      unfold hashS at H2
      go_wp2
      go_roundw
      case rel => exact ⟨k + 1, by omega, by go_num, by rw [H2.out], hb⟩
      case measure => simp [intOf]; omega
    · have h2 : L.take k = L := List.take_of_length_le (by omega)
      have H2 := hide h2
      clear h2
      go_wp2
      go_ret
      exact ⟨congrArg (fun l => Ending.returned (.int .u64 (hashL l))) H2.out, hb⟩

theorem row_free {w : World} {g : Nat} {l : Array Value} {t : TypeId} (h : w.heap[g]? = some (.cells l t (0, 0))) : ∀ o, w.frozen? ⟨g, o, none⟩ = false := fun o => by simp [World.frozen?, h]
theorem grownBy_below {w w' : World} {row : Option Nat} (h : Below w.heap.size w w') : w.grownBy w' row := ⟨h.os, h.tape, h.output, h.size, fun k hk _ => h.block k hk⟩
theorem grownBy_trans {a b c : World} {row : Option Nat} (h : a.grownBy b row) (k : b.grownBy c row) : a.grownBy c row :=
  ⟨k.os.trans h.os, k.tape.trans h.tape, k.output.trans h.output, Nat.le_trans h.size k.size, fun i hi hne => (k.block i (Nat.lt_of_lt_of_le hi h.size) hne).trans (h.block i hi hne)⟩
/-- The i-th bit of a key: of its hash's halves. -/
def plc (h : Int) (n : Nat) (i : Int) : Int := (h + i * (h / 4294967296)) % 4294967296 % (n * 8)
def placesL (h : Int) (n : Nat) (k : Nat) : List Int := (List.range k).map fun i : Nat => plc h n (i : Int)
theorem placesL_succ (h : Int) (n k : Nat) : placesL h n (k + 1) = placesL h n k ++ [plc h n k] := by simp [placesL, List.range_succ]
theorem plc_bd (h : Int) (n : Nat) (i : Int) (hn : 0 < n) : 0 ≤ plc h n i ∧ plc h n i < n * 8 := by
  unfold plc
  exact ⟨Int.emod_nonneg _ (by omega), Int.emod_lt_of_pos _ (by omega)⟩
theorem placesL_bd {h : Int} {n k : Nat} (hn : 0 < n) : ∀ p ∈ placesL h n k, 0 ≤ p ∧ p < n * 8 := by
  intro p hp
  obtain ⟨i, _, rfl⟩ := List.mem_map.1 hp
  exact plc_bd h n i hn

/-- A filter in memory: its struct in block p, its bytes in block g. -/
structure Flt (w : World) (p g : Nat) (k : Nat) (B : List Int) : Prop where
  st : w.heap[p]? = some (.cells #[.int .i64 k, .slice (some ⟨g, 0, none⟩) B.length B.length] 50 (0, 0))
  bl : w.heap[g]? = some (.cells (B.map u8v).toArray 5 (0, 0))
  ne : p ≠ g
  k1 : 1 ≤ k ∧ k ≤ 14
  len : 1 ≤ B.length ∧ B.length ≤ 25000
  byt : ∀ b ∈ B, isB b
theorem Flt.below {w w' : World} {p g k : Nat} {B : List Int} (h : Flt w p g k B) (hb : Below w.heap.size w w') : Flt w' p g k B :=
  { h with st := (hb.block p (Array.getElem?_eq_some_iff.1 h.st).1).trans h.st, bl := (hb.block g (Array.getElem?_eq_some_iff.1 h.bl).1).trans h.bl }
theorem Flt.lt {w : World} {p g k : Nat} {B : List Int} (h : Flt w p g k B) : p < w.heap.size ∧ g < w.heap.size := ⟨(Array.getElem?_eq_some_iff.1 h.st).1, (Array.getElem?_eq_some_iff.1 h.bl).1⟩
theorem Flt.cells {w : World} {p g k : Nat} {B : List Int} (h : Flt w p g k B) : w.cell? ⟨p, 0, none⟩ = some (.int .i64 k) ∧ w.cell? ⟨p, 1, none⟩ = some (.slice (some ⟨g, 0, none⟩) B.length B.length) :=
  ⟨(cell_of_row w p 0 _ _ _ h.st).trans rfl, (cell_of_row w p 1 _ _ _ h.st).trans rfl⟩
theorem Flt.row {w : World} {p g k : Nat} {B : List Int} (h : Flt w p g k B) : ValsAt u8v w (some ⟨g, 0, none⟩) B := vals_of_block h.bl

set_option maxHeartbeats 1000000 in
theorem places_any {p g k : Nat} {B : List Int} (A : Option Addr) (c : Nat) (L : List Int) (w : World) (hF : Flt w p g k B) (hl : L.length ≤ 9223372036854775807) (hL : ValsAt u8v w A L) (hB : ∀ b ∈ L, isB b) :
    Calls Try.prog 22 #[.pointer (some ⟨p, 0, none⟩), .slice A L.length c] w fun e w' => ∃ v, e = .returned v ∧ OwnL (one1 i64v) 1 3 w.heap.size w' v (placesL (hashL L) B.length k) ∧ Below w.heap.size w w' := by
  have HH := hide (hash_any A c L w hl hL hB)
  have hh := hashL_bd L
  generalize hashL L = h at *
  obtain ⟨c0, c1⟩ := hF.cells
  obtain ⟨hlp, hlg⟩ := hF.lt
  have hk1 := hF.k1
  have hln := hF.len
  go_enter Try.func22, Try.ntmps22
  go_wp2_with fail
  refine (Calls.mono HH.out ?_); rintro e w1 ⟨rfl, hg1⟩
  have c0 := (hg1.cell (p := ⟨p, _, none⟩) hlp).trans c0
  have c1 := (hg1.cell (p := ⟨p, _, none⟩) hlp).trans c1
  go_wp2_with fail
  have HB1 := hide hg1
  have HP := hide (And.intro c0 c1)
  clear hg1 HH c0 c1
  have hm := plc_bd h B.length
  generalize hN : B.length = n at *
  go_loopw [9, 29] (fun v i wr => ∃ j : Nat, j ≤ k ∧ i = .int .i64 j ∧ OwnL (one1 i64v) 1 3 w.heap.size wr v (placesL h n j) ∧ Below w.heap.size w wr) (fun _ i _ => k - (intOf i).toNat)
  case atStart => exact ⟨0, by omega, rfl, OwnL.nil_ _ _ _ _ _, HB1.out⟩
  case round =>
    obtain ⟨j, hj, rfl, ho, hb⟩ := hrel
    have HO := hide ho
    have HB := hide hb
    have hbs := hb.size
    clear ho hb
    by_cases hlt : j < k
    · have hl2 : (placesL h n j).length = j := by simp [placesL]
      have HL2 := hide hl2
      clear hl2
      go_wp2_with (at_builtin; refine wpList_append_one rfl (.tmp 32) (.tmp 42) 52 3 _ 8 rfl Try.underlying52 Try.infoInt rfl (fun _ => rfl) (by omega) _ _ _ _ _ _ (placesL h n j) _ rfl rfl rfl HO.out HB.out (Nat.le_refl _) hbs (by rw [HL2.out]; omega) ?_; intro v1 u1 ho1 hbu1 hgu1)
      have hp := hm j (by omega)
      have hw : wrap64 ((h + (j : Int) * (h / 4294967296)) % 4294967296 % ((n : Int) * 8)) = plc h n j := by
        show wrap64 (plc h n j) = plc h n j
        generalize plc h n j = q at *
        unfold wrap64
        omega
      rw [hw, ← placesL_succ] at ho1
      exact ⟨⟨j + 1, by omega, by go_num, ho1, hbu1⟩, by simp [intOf]; omega⟩
    · obtain rfl : j = k := by omega
      go_wp2
      go_ret
      exact ⟨u9, rfl, by rw [hN]; exact HO.out, HB.out⟩
end Go.Proofs.Ytdhpjeenbejajaa
