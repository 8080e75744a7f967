/- clepsydra/bloom and clepsydra/sum.Hash: contracts. Conditions: typed at each. -/
import Derived.Test.YthpbohheddkfiaaIdxI
namespace Go.Proofs.Ythpbohheddkfiaa
set_option linter.unusedVariables false
set_option linter.unusedSimpArgs false
open Go.ChangeShapes Go.WideShapes Go.ChangeAt Go.RowKit

theorem Try.infoInt : (Try.prog.info? 3).map (fun i => (i.zero, i.size, i.bytes)) = some (some (.int .i64 0), 1, 8) := by kernel_rfl

def isB (b : Int) : Prop := 0 ≤ b ∧ b ≤ 255
def hashS (h c : Int) : Int := IntKind.u64.wrap (bits .xor .u64 h c * 1099511628211)
def hashL (L : List Int) : Int := L.foldl hashS 14695981039346656037
theorem hashL_snoc (L : List Int) (c : Int) : hashL (L ++ [c]) = hashS (hashL L) c := by simp [hashL]
theorem hashL_bd (L : List Int) : 0 ≤ hashL L ∧ hashL L < 18446744073709551616 := by
  rcases List.eq_nil_or_concat L with rfl | ⟨M, c, rfl⟩
  · decide
  · rw [List.concat_eq_append, hashL_snoc]; unfold hashS; exact ⟨Int.emod_nonneg _ (by decide), Int.emod_lt_of_pos _ (by decide)⟩

set_option maxHeartbeats 400000 in
theorem hash_any (A : Option Addr) (c : Nat) (L : List Int) (w : World) (hl : L.length ≤ 9223372036854775807) (hL : ValsAt u8v w A L) (hB : ∀ b ∈ L, isB b) :
    Calls Try.prog 35 #[.slice A L.length c] w fun e w' => e = .returned (.int .u64 (hashL L)) ∧ Below w.heap.size w w' := by
  go_enter Try.func35, Try.ntmps35
  go_wp2
  go_loopw [3, 8] (fun h i wr => ∃ k : Nat, k ≤ L.length ∧ i = .int .i64 k ∧ h = .int .u64 (hashL (L.take k)) ∧ Below w.heap.size w wr) (fun _ i _ => L.length - (intOf i).toNat)
  case atStart => exact ⟨0, by omega, rfl, rfl, Below.refl _ _⟩
  case round =>
    obtain ⟨k, hk, rfl, rfl, hb⟩ := hrel
    by_cases hlt : k < L.length
    · obtain ⟨b, off, rfl, hbb, c0⟩ := RowAt.one hL hb hlt
      have h1 := hB L[k] (List.getElem_mem hlt)
      have h2 : hashL (L.take (k + 1)) = hashS (hashL (L.take k)) L[k] := by rw [take_snoc hlt, hashL_snoc]
      have h3 := hashL_bd (L.take k)
      generalize L[k] = x at *
      unfold isB at h1
      have H2 := hide h2
      clear h2
      generalize hashL (L.take k) = h at *
      have e1 : (x : Int) % 18446744073709551616 = x := by omega
      unfold hashS at H2
      go_wp2
      go_roundw
      case rel => exact ⟨k + 1, by omega, by go_num, by rw [H2.out], hb⟩
      case measure => simp [intOf]; omega
    · have h2 : L.take k = L := List.take_of_length_le (by omega)
      have H2 := hide h2
      clear h2
      go_wp2
      go_ret
      exact ⟨congrArg (fun l => Ending.returned (.int .u64 (hashL l))) H2.out, hb⟩

theorem row_free {w : World} {g : Nat} {l : Array Value} {t : TypeId} (h : w.heap[g]? = some (.cells l t (0, 0))) : ∀ o, w.frozen? ⟨g, o, none⟩ = false := fun o => by simp [World.frozen?, h]
theorem grownBy_below {w w' : World} {row : Option Nat} (h : Below w.heap.size w w') : w.grownBy w' row := ⟨h.os, h.tape, h.output, h.size, fun k hk _ => h.block k hk⟩
theorem grownBy_trans {a b c : World} {row : Option Nat} (h : a.grownBy b row) (k : b.grownBy c row) : a.grownBy c row :=
  ⟨k.os.trans h.os, k.tape.trans h.tape, k.output.trans h.output, Nat.le_trans h.size k.size, fun i hi hne => (k.block i (Nat.lt_of_lt_of_le hi h.size) hne).trans (h.block i hi hne)⟩
/-- The i-th bit of a key: of its hash's halves. -/
def plc (h : Int) (n : Nat) (i : Int) : Int := (h + i * (h / 4294967296)) % 4294967296 % (n * 8)
def placesL (h : Int) (n : Nat) (k : Nat) : List Int := (List.range k).map fun i : Nat => plc h n (i : Int)
theorem placesL_succ (h : Int) (n k : Nat) : placesL h n (k + 1) = placesL h n k ++ [plc h n k] := by simp [placesL, List.range_succ]
theorem plc_bd (h : Int) (n : Nat) (i : Int) (hn : 0 < n) : 0 ≤ plc h n i ∧ plc h n i < n * 8 := by
  unfold plc
  exact ⟨Int.emod_nonneg _ (by omega), Int.emod_lt_of_pos _ (by omega)⟩
theorem placesL_bd {h : Int} {n k : Nat} (hn : 0 < n) : ∀ p ∈ placesL h n k, 0 ≤ p ∧ p < n * 8 := by
  intro p hp
  obtain ⟨i, _, rfl⟩ := List.mem_map.1 hp
  exact plc_bd h n i hn

end Go.Proofs.Ythpbohheddkfiaa
