/- The document's Hash; bytes as text; a row of bytes made: contracts. Conditions: typed at each. -/
import Derived.Test.YtoejhekmfgkklaaBlm
import Derived.Laws.BytesArg
import Derived.Laws.OwnMore
namespace Go.Proofs.Ytoejhekmfgkklaa
set_option linter.unusedVariables false
set_option linter.unusedSimpArgs false
open Go.ChangeShapes Go.WideShapes Go.ChangeAt Go.RowKit

def zeros9 (n : Nat) : List Int := List.replicate n 0


theorem Try.infoU89 : (Try.prog.info? 5).map (fun i => (i.zero, i.size, i.bytes)) = some (some (.int .u8 0), 1, 1) := by kernel_rfl

theorem run_make_bytes9 (S : Nat) (hS : S ≤ 100000) (w : World) : (Instr.makeSlice 42 (.int .i64 S) (.int .i64 S)).run Try.prog w = .ok (.slice (some ⟨w.heap.size, 0, none⟩) S S) (w.alloc (.cells ((zeros9 S).map u8v).toArray 5)) := by
  obtain ⟨i0, hi, hz0, hz1, hz2⟩ := info_parts Try.infoU89
  rw [run_make (P := Try.prog) w 42 5 i0 _ Try.underlying42 hi hz0 .i64 .i64 S S (by omega) (by omega) (by rw [hz2]; omega) (by omega), hz1]
  have h := toList_madeCells_one (.int .u8 0) S
  have e : madeCells (Value.int .u8 0).cells ((S : Int).toNat * 1) = ((zeros9 S).map u8v).toArray := by
    apply Array.toList_inj.1
    simp only [Int.toNat_natCast, Nat.mul_one, zeros9, List.map_replicate]
    exact h
  rw [e]
  simp

theorem heap_setB9 {w : World} {g o : Nat} {l : List Value} {t : TypeId} {u : Value} (h : w.heap[g]? = some (.cells l.toArray t (0, 0))) : (w.setCell ⟨g, o, none⟩ u).heap[g]? = some (.cells (l.set o u).toArray t (0, 0)) := by
  simp [World.setCell, Array.getElem?_modify, h]

theorem strOfNums_app9 (a b : List Int) : strOfNums (a ++ b) = strOfNums a ++ strOfNums b := by
  apply ByteArray.ext
  simp [strOfNums]

theorem conv_vals9 {w : World} {A : Option Addr} {c : Nat} {L : List Int} (hL : ValsAt u8v w A L) (hne : L ≠ []) : (convert 42 9 (.slice A L.length c)).run Try.prog w = .ok (.string (strOfNums L)) w := by
  obtain ⟨b, off, rfl, _, hc⟩ := hL hne
  refine run_convert_bytes_arg w 42 5 Try.underlying42 Try.underlying5 b off L.length c L rfl (fun i hi => ?_) 9 Try.underlying9
  have := hc i hi 0 _ rfl
  simpa [List.getD, List.getElem?_eq_getElem hi] using this

theorem str_len9 (L : List Int) : (strOfNums L).size = L.length := strOfNums_size L

theorem str_at9 {L : List Int} (hB : ∀ b ∈ L, isB b) {k : Nat} (hk : k < L.length) (h2 : k < (strOfNums L).size) : (((strOfNums L)[k]'h2).toNat : Int) = L[k] := by
  have h := hB L[k] (List.getElem_mem hk)
  unfold isB at h
  have e : (strOfNums L)[k]'h2 = UInt8.ofNat (L[k].toNat) := by
    show (strOfNums L).data[k]'_ = _
    simp [strOfNums]
  rw [e, UInt8.toNat_ofNat']
  omega


set_option maxHeartbeats 400000 in
theorem rhash_any9 (L : List Int) (w : World) (hl : L.length ≤ 9223372036854775807) (hB : ∀ b ∈ L, isB b) :
    Calls Try.prog 22 #[.string (strOfNums L)] w fun e w' => e = .returned (.int .u64 (hashL L)) ∧ Below w.heap.size w w' := by
  have hsz := str_len9 L
  obtain ⟨S, hS⟩ : ∃ S, strOfNums L = S := ⟨_, rfl⟩
  rw [hS] at hsz
  rw [hS]
  go_enter Try.func22, Try.ntmps22
  go_wp2
  go_loopw [3, 4] (fun h i wr => ∃ k : Nat, k ≤ L.length ∧ i = .int .i64 k ∧ h = .int .u64 (hashL (L.take k)) ∧ Below w.heap.size w wr) (fun _ i _ => L.length - (intOf i).toNat)
  case atStart => exact ⟨0, by omega, rfl, rfl, Below.refl _ _⟩
  case round =>
    obtain ⟨k, hk, rfl, rfl, hb⟩ := hrel
    by_cases hlt : k < L.length
    · have h1 := hB L[k] (List.getElem_mem hlt)
      have h2 : hashL (L.take (k + 1)) = hashS (hashL (L.take k)) L[k] := by rw [take_snoc hlt, hashL_snoc]
      have h3 := hashL_bd (L.take k)
      have h4 : (k : Int) < (L.length : Int) := by omega
      have hks : k < S.size := by omega
      have h5 := str_at9 hB hlt (by rw [hS]; exact hks)
      have h5' : ((S[k]'hks).toNat : Int) = L[k] := by subst hS; exact h5
      generalize (L[k]'hlt) = x at *
      unfold isB at h1
      have e1 : IntKind.u64.wrap x = x := by rw [IntKind.wrap_u64]; omega
      have H2 := hide h2
      clear h2 h5
      generalize hashL (L.take k) = h at *
      go_wp2
      exact ⟨⟨k + 1, by omega, by go_num, by rw [H2.out]; rfl, hb⟩, by simp [intOf]; omega⟩
    · have h2 : L.take k = L := List.take_of_length_le (by omega)
      have H2 := hide h2
      have h4 : ¬ (k : Int) < (L.length : Int) := by omega
      clear h2
      go_wp2
      go_ret
      exact ⟨congrArg (fun l => Ending.returned (.int .u64 (hashL l))) H2.out, hb⟩


end Go.Proofs.Ytoejhekmfgkklaa
