/- Batches onto one memory, and the document's rows beside it: contracts in the form that MemPlays calls. Conditions: the memory as it lies. -/
import Derived.Test.YtoejhekmfgkklaaMem2
import Derived.Test.YtoejhekmfgkklaaRows5
namespace Go.Proofs.Ytoejhekmfgkklaa
set_option linter.unusedVariables false
set_option linter.unusedSimpArgs false
open Go.ChangeShapes Go.WideShapes Go.ChangeAt Go.RowKit

theorem isTop_self {W : List It} (h : Rising W) : IsTop W W := ⟨h, fun x => (rising_rowOf h).mem x⟩
theorem rising_one (x : It) : Rising [x] := rising_cons.2 ⟨fun y hy => by simp at hy, Rising.nil_⟩
theorem mrg2_one {W : List It} (h : Rising W) (x : It) : mrg2 W [x] = skP x W := by
  have h1 : IsTop (x :: W) (skP x W) := skP_top (isTop_self h) x
  have h2 : IsTop (W ++ [x]) (mrg2 W [x]) := ⟨mrg2_up W [x] h (rising_one x), fun z => mrg2_mem W [x] h (rising_one x) z⟩
  refine h2.uniq (h1.congr fun z => ?_)
  simp only [List.mem_cons, List.mem_append, List.not_mem_nil, or_false]
  exact Or.comm
theorem rising_puts {W : List It} (h : Rising W) (L : List It) : Rising (puts L W) := by
  induction L generalizing W with
  | nil => exact h
  | cons x L ih => exact ih (rising_skP h)
theorem skP_len (x : It) (W : List It) : (skP x W).length ≤ W.length + 1 := by
  unfold skP
  split
  · split
    · rw [List.length_set]; omega
    · omega
  · rw [List.length_append, List.length_cons, List.length_take, List.length_drop]; omega
theorem puts_len (L W : List It) : (puts L W).length ≤ W.length + L.length := by
  induction L generalizing W with
  | nil => simp [puts]
  | cons x L ih =>
    have h1 := ih (skP x W)
    have h2 := skP_len x W
    rw [List.length_cons]
    show (puts L (skP x W)).length ≤ _
    omega
theorem puts_snoc {L W : List It} {k : Nat} (hk : k < L.length) : puts (L.take (k + 1)) W = skP L[k] (puts (L.take k) W) := by
  unfold puts
  rw [List.take_succ_eq_append_getElem hk, List.foldl_append]
  rfl
/-- A row that is read beside a memory. -/
def Rd (w : World) (b p : Nat) (F : List Nd) (v : Value) (W : List It) : Prop := ∃ A c, v = .slice A W.length c ∧ ItemsAt w A W ∧ ∀ a, A = some a → W ≠ [] → ¬ MBlk b p F a.block
theorem Rd.below {w w' : World} {b p : Nat} {F : List Nd} {v : Value} {W : List It} (h : Rd w b p F v W) (hb : Below w.heap.size w w') : Rd w' b p F v W := by
  obtain ⟨A, c, e, hr, hn⟩ := h
  exact ⟨A, c, e, hr.below hb, hn⟩
theorem Rd.sets {w w' : World} {b p : Nat} {F F2 : List Nd} {v : Value} {W : List It} (h : Rd w b p F v W) (k : Sets (MBlk b p F) w w') (ho : ∀ c, MBlk b p F2 c → MBlk b p F c ∨ w.heap.size ≤ c) : Rd w' b p F2 v W := by
  obtain ⟨A, c, e, hr, hn⟩ := h
  refine ⟨A, c, e, ItemsAt.sets hr k hn, fun a ha hW hc => ?_⟩
  rcases ho _ hc with h1 | h1
  · exact hn a ha hW h1
  · have := old_block hr a ha hW
    omega
structure MP (w0 w : World) (b p : Nat) (F : List Nd) (f : Bool) (v : Value) (W : List It) : Prop where
  mo : MO w0 w b p F f (28 * (W.length : Int))
  its : itsF F = W
  rd : Rd w b p F v W
  up : Rising W
theorem MP.len {w0 w : World} {b p : Nat} {F : List Nd} {f : Bool} {v : Value} {W : List It} (h : MP w0 w b p F f v W) : F.length = W.length + 1 := by
  have := h.mo.len_its
  rw [h.its] at this
  omega
theorem MP.below {w0 w w' : World} {b p : Nat} {F : List Nd} {f : Bool} {v : Value} {W : List It} (h : MP w0 w b p F f v W) (hb : Below w.heap.size w w') : MP w0 w' b p F f v W := ⟨h.mo.below hb, h.its, h.rd.below hb, h.up⟩
/-- The memory holds T, the row beside it still reads W. -/
structure MQ (w0 w : World) (b p : Nat) (F : List Nd) (v : Value) (W T : List It) : Prop where
  mo : MO w0 w b p F false (28 * (T.length : Int))
  its : itsF F = T
  rd : Rd w b p F v W
  up : Rising W
theorem MQ.below {w0 w w' : World} {b p : Nat} {F : List Nd} {v : Value} {W T : List It} (h : MQ w0 w b p F v W T) (hb : Below w.heap.size w w') : MQ w0 w' b p F v W T := ⟨h.mo.below hb, h.its, h.rd.below hb, h.up⟩
theorem MQ.mp {w0 w : World} {b p : Nat} {F : List Nd} {v : Value} {W : List It} (h : MQ w0 w b p F v W W) : MP w0 w b p F false v W := ⟨h.mo, h.its, h.rd, h.up⟩
theorem freeze_mp {w0 w : World} {b p : Nat} {F : List Nd} {f : Bool} {v : Value} {W : List It} (h : MP w0 w b p F f v W) : Calls Try.prog 16 #[.pointer (some ⟨b, 0, none⟩)] w fun e w' => e = .returned (.tuple #[]) ∧ MP w0 w' b p F true v W :=
  Calls.mono (freeze_mo h.mo) (by
    rintro e w' ⟨rfl, hm, hs⟩
    exact ⟨rfl, hm, h.its, h.rd.sets hs (fun c hc => .inl hc), h.up⟩)
theorem apply_no {w0 w : World} {b p : Nat} {F : List Nd} {f : Bool} {v : Value} {W : List It} (h : MP w0 w b p F f v W) (A : Option Addr) (c : Nat) (L : List It) (hL : ItemsAt w A L) (hw : ∀ x ∈ L, x.wf) (hlen : W.length + L.length ≤ 10000) (hA : ∀ a, A = some a → L ≠ [] → a.block < w0.heap.size) {q : Int} (he : apE f L = q) (hq : q ≠ 0) :
    Calls Try.prog 12 #[.pointer (some ⟨b, 0, none⟩), .slice A L.length c] w fun e w' => ∃ F2, e = .returned (.int .i64 q) ∧ MP w0 w' b p F2 f v W :=
  Calls.mono (apply_mo h.mo A c L hL hw (by have := h.len; omega) (h.mo.notOld' hA)) (by
    rintro e w' ⟨F2, n2, rfl, hm, hi, hl, hn, hs, ho⟩
    have hne : ¬ apE f L = 0 := by rw [he]; exact hq
    rw [if_neg hne] at hn
    subst hn
    refine ⟨F2, by rw [he], hm, ?_, h.rd.sets hs ho, h.up⟩
    rw [hi]
    unfold apL
    rw [if_neg hne]
    exact h.its)
theorem apply_yes {w0 w : World} {b p : Nat} {F : List Nd} {v : Value} {W : List It} (h : MP w0 w b p F false v W) (A : Option Addr) (c : Nat) (L : List It) (hL : ItemsAt w A L) (hw : ∀ x ∈ L, x.wf) (hlen : W.length + L.length ≤ 10000) (hA : ∀ a, A = some a → L ≠ [] → a.block < w0.heap.size) (he : apE false L = 0) :
    Calls Try.prog 12 #[.pointer (some ⟨b, 0, none⟩), .slice A L.length c] w fun e w' => ∃ F2, e = .returned (.int .i64 0) ∧ MQ w0 w' b p F2 v W (puts L W) :=
  Calls.mono (apply_mo h.mo A c L hL hw (by have := h.len; omega) (h.mo.notOld' hA)) (by
    rintro e w' ⟨F2, n2, rfl, hm, hi, hl, hn, hs, ho⟩
    rw [if_pos he] at hn
    have hit : itsF F2 = puts L W := by
      rw [hi]
      unfold apL
      rw [if_pos he, h.its]
    rw [hm.len_its, hit] at hn
    subst hn
    exact ⟨F2, by rw [he], hm, hit, h.rd.sets hs ho, h.up⟩)
/-- One item more for the row beside it. -/
theorem rows_one {w0 w : World} {b p : Nat} {F : List Nd} {v : Value} {W T : List It} (h : MQ w0 w b p F v W T) (hlen : W.length ≤ 100000) (g : Nat) (t : TypeId) (A : Addr) (c : Nat) (x : It) (hx : ItemsAt w (some A) [x]) (hg : w.heap[g]? = some (.cells #[v, .slice (some A) 1 c] t (0, 0))) :
    Calls Try.prog 17 #[.slice (some ⟨g, 0, none⟩) 2 2] w fun e w' => ∃ v', e = .returned v' ∧ MQ w0 w' b p F v' (skP x W) T ∧ Below w.heap.size w w' := by
  obtain ⟨A0, c0, rfl, hr, hn⟩ := h.rd
  have hR : RowsAt w (some ⟨g, 0, none⟩) [⟨A0, c0, W⟩, ⟨some A, c, [x]⟩] := by
    refine ⟨fun _ => ⟨g, 0, rfl, (Array.getElem?_eq_some_iff.1 hg).1, fun k hk j u hu => ?_⟩, fun r hr' => ?_⟩
    · have hj : j = 0 := by
        cases j with
        | zero => rfl
        | succ j => simp [Rw.cells] at hu
      subst hj
      have hk2 : k = 0 ∨ k = 1 := by simp only [List.length_cons, List.length_nil] at hk; omega
      rcases hk2 with rfl | rfl
      · rw [show (0 + 0 * 1 + 0) = 0 from rfl, cell_of_row w g 0 _ _ _ hg]
        exact hu
      · rw [show (0 + 1 * 1 + 0) = 1 from rfl, cell_of_row w g 1 _ _ _ hg]
        exact hu
    · simp only [List.mem_cons, List.not_mem_nil, or_false] at hr'
      rcases hr' with rfl | rfl
      · exact hr
      · exact hx
  have hs : mrgs [(⟨A0, c0, W⟩ : Rw), ⟨some A, c, [x]⟩] = skP x W := by
    unfold mrgs
    simp only [List.foldl_cons, List.foldl_nil]
    rw [mrg2_nil_left, mrg2_one h.up]
  refine Calls.mono (rrows_any (some ⟨g, 0, none⟩) 2 [⟨A0, c0, W⟩, ⟨some A, c, [x]⟩] w hR (by simp) (by simp [sumLen]; omega)) ?_
  rintro e w' ⟨⟨v', rfl, ho⟩, hb⟩
  rw [hs] at ho
  refine ⟨v', rfl, ⟨h.mo.below hb, h.its, ?_, rising_skP h.up⟩, hb⟩
  obtain ⟨A2, c2, rfl, hr2, hlow, _, _⟩ := OwnL.row It.cells_len ho
  refine ⟨A2, c2, rfl, hr2, fun a ha _ hc => ?_⟩
  obtain ⟨ab, ao, asx⟩ := a
  have h1 := (hlow ab ao asx ha).1
  have h2 := h.mo.at_.lt _ hc
  simp only at h2
  omega
end Go.Proofs.Ytoejhekmfgkklaa
