/- []byte(s) and s[a:] of a string of bytes: plain words. Conditions: typed at each. -/
import Derived.Test.YtdhpjeenbejajaaRb2
import Derived.Laws.IdiomStrings
import Derived.Lib.Strings
namespace Go.Proofs.Ytdhpjeenbejajaa
set_option linter.unusedVariables false
set_option linter.unusedSimpArgs false
open Go.ChangeShapes Go.WideShapes Go.ChangeAt Go.RowKit

theorem str_drop (L : List Int) (m : Nat) : (strOfNums L).extract m L.length = strOfNums (L.drop m) := by
  rw [Lib.extract_eq]
  unfold strOfNums
  simp only [List.map_drop]
  congr 2
  rw [List.take_of_length_le]
  simp
theorem str_bytes (L : List Int) (hB : ∀ b ∈ L, isB b) (hl : L.length ≤ 1099511627776) (w : World) : ∃ gc w', (convert 9 27 (.string (strOfNums L))).run Try.prog w = .ok (.slice (some ⟨w.heap.size, 0, none⟩) L.length gc) w' ∧
    Below w.heap.size w w' ∧ w.heap.size < w'.heap.size ∧ ValsAt u8v w' (some ⟨w.heap.size, 0, none⟩) L ∧ L.length ≤ gc ∧ gc ≤ maxLen := by
  have h := run_bytes_of_string (P := Try.prog) w 9 27 5 (strOfNums L) Try.underlying9 Try.underlying27 Try.underlying5
  have hz := str_len L
  rw [hz] at h
  obtain ⟨gc, hgc⟩ : ∃ gc, grownCap w L.length 0 5 = gc := ⟨_, rfl⟩
  have hg1 := grownCap_ge w L.length 0 5
  have hg2 := grownCap_le_maxLen w L.length 0 5 (by simp only [maxLen]; omega)
  rw [hgc] at h hg1 hg2
  obtain ⟨C, hC⟩ : ∃ C, bytesRow (strOfNums L) gc = C := ⟨_, rfl⟩
  rw [hC] at h
  have hnew : (w.drew.alloc (.cells C 5 (C.size, C.size + 1))).heap[w.heap.size]? = some (.cells C 5 (C.size, C.size + 1)) := heap_alloc_new w.drew _
  have hlt := (Array.getElem?_eq_some_iff.1 hnew).1
  refine ⟨gc, _, h, below_alloc (Below.refl w.heap.size w).drew _, hlt, ?_, hg1, hg2⟩
  intro _
  refine ⟨w.heap.size, 0, rfl, hlt, fun k hk j u hu => ?_⟩
  have hj : j = 0 := by
    have := (List.getElem?_eq_some_iff.1 hu).1
    simpa [one1] using this
  subst hj
  have hks : k < (strOfNums L).size := by omega
  have hc := cell_of_row _ w.heap.size (0 + k * 1 + 0) _ _ _ hnew
  have hb := bytesRow_at (strOfNums L) gc k hks
  rw [hC] at hb
  rw [hc, show 0 + k * 1 + 0 = k by omega, hb]
  have h6 : (((strOfNums L).data[k]'hks).toNat : Int) = L[k] := str_at hB hk hks
  rw [h6]
  simpa [one1] using hu
theorem bytesRow_eq (L : List Int) (hB : ∀ b ∈ L, isB b) (gc : Nat) : bytesRow (strOfNums L) gc = ((L.map u8v) ++ List.replicate (gc - L.length) (Value.int .u8 0)).toArray := by
  unfold bytesRow
  rw [str_len]
  apply Array.toList_inj.1
  simp only [Array.toList_append, Array.toList_map, Array.toList_replicate]
  congr 1
  show List.map _ (strOfNums L).data.toList = _
  rw [strOfNums_data, List.map_map]
  apply List.map_congr_left
  intro b hb
  have h := hB b hb
  unfold isB at h
  simp only [Function.comp, UInt8.toNat_ofNat']
  congr 1
  omega
/-- []byte(s): the block as it lies, with its mark. -/
theorem str_bytes_at (L : List Int) (hB : ∀ b ∈ L, isB b) (hl : L.length ≤ 1099511627776) (w : World) : ∃ gc n w', (convert 9 27 (.string (strOfNums L))).run Try.prog w = .ok (.slice (some ⟨w.heap.size, 0, none⟩) L.length gc) w' ∧
    Below w.heap.size w w' ∧ w'.heap[w.heap.size]? = some (.cells ((L.map u8v) ++ List.replicate (gc - L.length) (Value.int .u8 0)).toArray 5 (n, n + 1)) ∧ L.length ≤ gc ∧ gc ≤ maxLen ∧ n = gc := by
  have h := run_bytes_of_string (P := Try.prog) w 9 27 5 (strOfNums L) Try.underlying9 Try.underlying27 Try.underlying5
  rw [str_len] at h
  have hg1 := grownCap_ge w L.length 0 5
  have hg2 := grownCap_le_maxLen w L.length 0 5 (by simp only [maxLen]; omega)
  rw [bytesRow_eq L hB] at h
  exact ⟨_, _, _, h, below_alloc (Below.refl w.heap.size w).drew _, heap_alloc_new w.drew _, hg1, hg2, by simp; omega⟩
theorem conv_bytes {w : World} {A : Option Addr} {c : Nat} {L : List Int} (hL : ValsAt u8v w A L) : (convert 27 9 (.slice A L.length c)).run Try.prog w = .ok (.string (strOfNums L)) w := by
  rcases L with _ | ⟨x, L⟩
  · cases A with
    | none => exact run_convert_bytes_nil w 27 5 Try.underlying27 Try.underlying5 0 c 9 Try.underlying9
    | some ad =>
      have hl := run_loadCells_list (P := Try.prog) w ad [] (fun j v hj => by simp at hj)
      rw [List.length_nil, run_convert_bytes_string w 27 9 5 (some ad) 0 c Try.underlying27 Try.underlying5 Try.underlying9, run_bytesToString w ad 0 c [] hl]
      rfl
  · exact conv_vals hL (by simp)
end Go.Proofs.Ytdhpjeenbejajaa
