/- A memory of one's own: contracts of mem's functions in the form that a law's walk calls; clepsydralaw9.awake. Conditions: the memory as it lies. -/
import Derived.Test.YtoejhekmfgkklaaMemA
namespace Go.Proofs.Ytoejhekmfgkklaa
set_option linter.unusedVariables false
set_option linter.unusedSimpArgs false
open Go.ChangeShapes Go.WideShapes Go.ChangeAt Go.RowKit

/-- A memory that was made behind w0. -/
structure MO (w0 w : World) (b p : Nat) (F : List Nd) (f : Bool) (n : Int) : Prop where
  at_ : MemAt w b p F f n
  own : ∀ c, MBlk b p F c → w0.heap.size ≤ c
  low : Below w0.heap.size w0 w
theorem MO.below {w0 w w' : World} {b p : Nat} {F : List Nd} {f : Bool} {n : Int} (h : MO w0 w b p F f n) (hb : Below w.heap.size w w') : MO w0 w' b p F f n :=
  ⟨h.at_.below hb, h.own, below_step h.low hb⟩
theorem MO.notOld {w0 w : World} {b p : Nat} {F : List Nd} {f : Bool} {n : Int} (h : MO w0 w b p F f n) {A : Option Addr} (hA : ∀ a, A = some a → a.block < w0.heap.size) : ∀ a, A = some a → ¬ MBlk b p F a.block := fun a ha hc => by
  have h1 := hA a ha
  have h2 := h.own _ hc
  omega
theorem new_mo (w : World) : Calls Try.prog 11 #[] w fun e w' => ∃ b p H, e = .returned (.pointer (some ⟨b, 0, none⟩)) ∧ MO w w' b p [H] false 0 :=
  Calls.mono (mnew_any w) (by rintro e w' ⟨b, p, H, rfl, h1, h2, h3⟩; exact ⟨b, p, H, rfl, h1, h2, h3⟩)
theorem freeze_mo {w0 w : World} {b p : Nat} {F : List Nd} {f : Bool} {n : Int} (h : MO w0 w b p F f n) : Calls Try.prog 16 #[.pointer (some ⟨b, 0, none⟩)] w fun e w' => e = .returned (.tuple #[]) ∧ MO w0 w' b p F true n ∧ Sets (MBlk b p F) w w' :=
  Calls.mono (freeze_any b p F f n w h.at_) (by
    rintro e w' ⟨rfl, h1, h2⟩
    have h3 : Sets (MBlk b p F) w w' := (Sets.refl (S := MBlk b p F) w).trans h2 (fun _ _ e => .inl e)
    exact ⟨rfl, ⟨h1, h.own, Sets.below h.low h3 h.own h.low.size⟩, h3⟩)
theorem apply_mo {w0 w : World} {b p : Nat} {F : List Nd} {f : Bool} {n : Int} (h : MO w0 w b p F f n) (A : Option Addr) (c : Nat) (L : List It) (hL : ItemsAt w A L) (hw : ∀ x ∈ L, x.wf) (hlen : F.length + L.length ≤ 1099511627776) (hA : ∀ a, A = some a → L ≠ [] → ¬ MBlk b p F a.block) :
    Calls Try.prog 12 #[.pointer (some ⟨b, 0, none⟩), .slice A L.length c] w fun e w' => ∃ F' n', e = .returned (.int .i64 (apE f L)) ∧ MO w0 w' b p F' f n' ∧ itsF F' = apL f L (itsF F) ∧ F'.length ≤ F.length + L.length ∧ (n' = if apE f L = 0 then 28 * ((F'.length : Int) - 1) else n) ∧ Sets (MBlk b p F) w w' ∧ (∀ c, MBlk b p F' c → MBlk b p F c ∨ w.heap.size ≤ c) :=
  Calls.mono (apply_any b p F f n A c L w h.at_ hL hw hlen hA) (by
    rintro e w' ⟨F', n', rfl, hA⟩
    have ho : ∀ c, MBlk b p F' c → MBlk b p F c ∨ w.heap.size ≤ c := by
      rintro c (rfl | e)
      · exact .inl (.inl rfl)
      · exact (hA.own c e).imp .inr id
    refine ⟨F', n', rfl, ⟨hA.at_, fun c hc => ?_, Sets.below h.low hA.sets h.own h.low.size⟩, hA.its, hA.len, hA.size, hA.sets, ho⟩
    rcases ho c hc with e | e
    · exact h.own c e
    · have := h.low.size; omega)
theorem MO.len_its {w0 w : World} {b p : Nat} {F : List Nd} {f : Bool} {n : Int} (h : MO w0 w b p F f n) : (F.length : Int) - 1 = ((itsF F).length : Int) := by
  rw [its_len]
  have := h.at_.sk.pos.1
  omega

abbrev X9 : It := ⟨1, 2, 0, 2, 0⟩
theorem new_one9 {w : World} {g : Nat} {x : It} {t : TypeId} (h : w.heap[g]? = some (.cells x.cells.toArray t (0, 0))) : ItemsAt w (some ⟨g, 0, none⟩) [x] := RowAt.new_one (cells := It.cells) (y := x) h
set_option maxRecDepth 100000 in
set_option maxHeartbeats 3200000 in
theorem awake9_any (w : World) : Calls Try.prog 8 #[] w fun e w' => e = .returned (.bool true) ∧ Below w.heap.size w w' := by
  go_enter Try.func8, Try.ntmps8
  go_wp2_with fail
  refine (Calls.mono (new_mo _) ?_); rintro e w1 ⟨b, p, H, rfl, hm⟩
  have hz := al2z w1 (.cells X9.cells.toArray 24) (.cells X9.cells.toArray 24)
  have hlt := hm.at_.lt
  have HL := hide (new_one9 hz.1)
  have HM := hide (hm.below hz.2.1)
  have hg : ((w1.alloc (.cells X9.cells.toArray 24)).alloc (.cells X9.cells.toArray 24)).heap[w1.heap.size]? = some (.cells X9.cells.toArray 24 (0, 0)) :=
    ((below_alloc (Below.refl _ (w1.alloc (.cells X9.cells.toArray 24))) (.cells X9.cells.toArray 24)).block _ (by simp)).trans (heap_alloc_new w1 _)
  have HG := hide hg
  have HN : Hid (∀ c, w1.heap.size ≤ c → ¬ MBlk b p [H] c) := hide (fun c h1 h2 => by have := hlt c h2; omega)
  have HA : Hid (∀ a, some (⟨w1.heap.size + 1, 0, none⟩ : Addr) = some a → ¬ MBlk b p [H] a.block) := hide (by
    rintro a h hc
    obtain rfl := Option.some.inj h
    have := hlt _ hc
    simp at this
    omega)
  clear hz hlt hm hg
  go_wp2_with fail
  refine (Calls.mono (apply_mo HM.out (some ⟨w1.heap.size + 1, 0, none⟩) 1 [X9] HL.out (by intro x hx; rw [List.mem_singleton.1 hx]; unfold It.wf; decide) (by simp) (fun a h _ => HA.out a h)) ?_); rintro e w2 ⟨F, n, rfl, hm, hi, hl, hn, hs, ho⟩
  rw [show apE false [X9] = 0 by decide]
  have hi2 : itsF F = [X9] := hi.trans (by rw [show itsF [H] = [] from rfl]; unfold apL; rw [if_pos (by decide)]; rfl)
  have hn2 : n = 28 := by rw [hn, hm.len_its, hi2]; decide
  have hlF : (F.length : Int) - 1 = 1 := by rw [hm.len_its, hi2]; rfl
  subst hn2
  have hlt1 : w1.heap.size < ((w1.alloc (.cells X9.cells.toArray 24)).alloc (.cells X9.cells.toArray 24)).heap.size := by simp; omega
  have HG2 := hide ((hs.block _ hlt1 (HN.out _ (Nat.le_refl _))).trans HG.out)
  have HN2 : Hid (¬ MBlk b p F w1.heap.size) := hide (fun h => by
    rcases ho _ h with e | e
    · exact HN.out _ (Nat.le_refl _) e
    · omega)
  have hg2 : w1.heap.size < w2.heap.size := Nat.lt_of_lt_of_le hlt1 hs.size
  have HM2 := hide hm
  generalize w1.heap.size = g at *
  clear hi hi2 hl hn hs ho HM HL HA HG HN hm hlt1
  go_wp2_with fail
  refine (Calls.mono (freeze_mo HM2.out) ?_); rintro e w3 ⟨rfl, hm, hs⟩
  have hgb := (hs.block _ hg2 HN2.out).trans HG2.out
  have hbb := below_alloc (Below.refl w3.heap.size w3) (.cells X9.cells.toArray 24)
  have HM3 := hide (hm.below hbb)
  have HL3 := hide (new_one9 (heap_alloc_new w3 (.cells X9.cells.toArray 24)))
  have HA3 : Hid (∀ a, some (⟨w3.heap.size, 0, none⟩ : Addr) = some a → ¬ MBlk b p F a.block) := hide (by
    rintro a h hc
    obtain rfl := Option.some.inj h
    exact Nat.lt_irrefl _ (hm.at_.lt _ hc))
  obtain ⟨_, c0, c1, c2, c3, c4, _⟩ := res_box hgb
  clear hm hs hgb hbb HM2 HG2 HN2 hg2
  go_wp2_with fail
  refine (Calls.mono (apply_mo HM3.out (some ⟨w3.heap.size, 0, none⟩) 1 [X9] HL3.out (by intro x hx; rw [List.mem_singleton.1 hx]; unfold It.wf; decide) (by simp only [List.length_singleton]; omega) (fun a h _ => HA3.out a h)) ?_); rintro e w4 ⟨F2, n, rfl, hm, hi, hl, hn, hs, ho⟩
  have ha2 : apE true [X9] = 14 := rfl
  have hi2 : itsF F2 = itsF F := by rw [hi]; unfold apL; rw [if_neg (by rw [ha2]; decide)]
  have hn2 : n = 28 := by rw [hn, if_neg (by rw [ha2]; decide)]
  have hlF2 : (F2.length : Int) - 1 = 1 := by rw [hm.len_its, hi2]; rw [← HM3.out.len_its, hlF]
  subst hn2
  rw [ha2]
  have HF := hide (frozen_any b p F2 true 28 w4 hm.at_)
  have hln := mlen_any b p F2 true 28 w4 hm.at_
  rw [hlF2] at hln
  have HLN := hide hln
  have HBY := hide (mbytes_any b p F2 true 28 w4 hm.at_)
  have HB4 := hide hm.low
  clear ha2 hi hi2 hl hn hs ho hlF hlF2 hln hm HM3 HL3 HA3 c0 c1 c2 c3 c4
  go_wp2_with fail
  refine (Calls.mono HF.out ?_); rintro e w5 ⟨rfl, rfl⟩
  go_wp2_with fail
  refine (Calls.mono HLN.out ?_); rintro e w6 ⟨rfl, rfl⟩
  go_wp2_with fail
  refine (Calls.mono HBY.out ?_); rintro e w7 ⟨rfl, rfl⟩
  go_wp2_with fail
  go_ret
  exact ⟨rfl, HB4.out⟩
end Go.Proofs.Ytoejhekmfgkklaa
