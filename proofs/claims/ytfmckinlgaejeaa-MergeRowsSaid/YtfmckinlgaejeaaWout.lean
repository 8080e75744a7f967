/- merge.Without: a contract; what members a merged row has. Conditions: the list readable, its items typed. -/
import Derived.Test.YtfmckinlgaejeaaClean
import Derived.Test.YtfmckinlgaejeaaMrgP
namespace Go.Proofs.Ytfmckinlgaejeaa
set_option linter.unusedVariables false
set_option linter.unusedSimpArgs false
open Go.ChangeShapes Go.WideShapes Go.ChangeAt Go.RowKit

theorem addO_from (P : It → Prop) {O : List It} {z : It} (hO : ∀ x ∈ O, P x) (hz : P z) : ∀ x ∈ addO O z, P x := by
  intro x hx
  unfold addO at hx
  split at hx
  · rw [List.mem_singleton] at hx
    subst hx; exact hz
  · split at hx
    · split at hx
      · rcases List.mem_or_eq_of_mem_set hx with h | h
        · exact hO x h
        · subst h; exact hz
      · exact hO x hx
    · rcases List.mem_append.1 hx with h | h
      · exact hO x h
      · rw [List.mem_singleton] at h; subst h; exact hz
theorem addO_len1 (O : List It) (z : It) : (addO O z).length ≤ O.length + 1 := by
  unfold addO
  split
  · simp
  · split
    · split
      · rw [List.length_set]; omega
      · omega
    · simp
theorem mrgG_len1 : ∀ (n : Nat) (R : List (List It)) (O : List It), (mrgG n R O).length ≤ O.length + n
  | 0, R, O => by rw [mrgG]; omega
  | n + 1, R, O => by
    rw [mrgG]
    split
    · omega
    · rename_i a hs
      have h1 := mrgG_len1 n (R.set a ((rowI R a).drop 1)) (addO O (hd R a))
      have h2 := addO_len1 O (hd R a)
      omega
theorem mrgG_from (P : It → Prop) : ∀ (n : Nat) (R : List (List It)) (O : List It), (∀ l ∈ R, ∀ x ∈ l, P x) → (∀ x ∈ O, P x) → ∀ x ∈ mrgG n R O, P x
  | 0, R, O, _, hO => by rw [mrgG]; exact hO
  | n + 1, R, O, hR, hO => by
    rw [mrgG]
    split
    · exact hO
    · rename_i a hs
      obtain ⟨ha, ⟨l, hl⟩, _⟩ := scan_some hs
      have hm : rowI R a ∈ R := by rw [rowI_lt ha]; exact List.getElem_mem _
      refine mrgG_from P n _ _ (fun r hr x hx => ?_) (addO_from P hO (hR _ hm _ (by rw [hl]; simp)))
      rcases List.mem_or_eq_of_mem_set hr with h | h
      · exact hR r h x hx
      · subst h; exact hR _ hm x (List.mem_of_mem_drop hx)
/-- A delete up to a version. -/
def oldT (v : Int) (x : It) : Bool := decide (x.k = 1) && decide (x.v ≤ v)
set_option maxRecDepth 100000 in
set_option maxHeartbeats 1600000 in
theorem oldc_any (g : Nat) (v : Int) (x : It) (w : World) (hg : w.cell? ⟨g, 0, none⟩ = some (.int .u64 v)) (hgl : g < w.heap.size) :
    Calls Try.prog 36 #[x.val, .pointer (some ⟨g, 0, none⟩)] w fun e w' => e = .returned (.bool (oldT v x)) ∧ Below w.heap.size w w' := by
  have hb := below_alloc (Below.refl w.heap.size w) (.cells x.cells.toArray 28)
  have HB := hide hb
  have hh : oldT v x = (decide (x.k = 1) && decide (x.v ≤ v)) := rfl
  have HH := hide hh
  have hne : g ≠ w.heap.size := by omega
  clear hb hh
  by_cases hk : x.k = 1
  · have d1 : decide (x.k = 1) = true := decide_eq_true hk
    have hkb : (x.k == 1) = true := beq_iff_eq.2 hk
    rw [d1] at HH
    clear hk
    by_cases hv : x.v ≤ v
    · have d2 : decide (x.v ≤ v) = true := decide_eq_true hv
      go_enter Try.func36, Try.ntmps36
      go_wp2_with fail
      go_ret
      exact ⟨by rw [HH.out]; simp [hv], HB.out⟩
    · have d2 : decide (x.v ≤ v) = false := decide_eq_false hv
      go_enter Try.func36, Try.ntmps36
      go_wp2_with fail
      go_ret
      exact ⟨by rw [HH.out]; simp; omega, HB.out⟩
  · have d1 : decide (x.k = 1) = false := decide_eq_false hk
    have hkb : (x.k == 1) = false := beq_eq_false_iff_ne.2 hk
    rw [d1] at HH
    go_enter Try.func36, Try.ntmps36
    go_wp2_with fail
    go_ret
    exact ⟨by rw [HH.out]; rfl, HB.out⟩
theorem oldc_in : Enters Try.prog 36 := fun _ _ => by kernel_rfl
set_option maxRecDepth 100000 in
set_option maxHeartbeats 1600000 in
theorem wout_any (A : Option Addr) (c : Nat) (L : List It) (v : Int) (w : World) (hL : ItemsAt w A L) (hw : ∀ x ∈ L, x.wf) (hl : L.length ≤ 1099511627776) :
    Calls Try.prog 20 #[.slice A L.length c, .int .u64 v] w fun e w' => (∃ u, e = .returned u ∧ Og w.heap.size w' u (keepL (oldT v) (cleanL L))) ∧ Below w.heap.size w w' := by
  have hba := below_alloc (Below.refl w.heap.size w) (.cells #[.int .u64 v] 26)
  have hgn := heap_alloc_new w (.cells #[.int .u64 v] 26)
  have HCL := hide (clean_any A c L _ (hL.below hba) hw hl)
  have HBA := hide hba
  have hgl : w.heap.size < (w.alloc (.cells #[.int .u64 v] 26)).heap.size := by simp
  obtain ⟨w1, hw1⟩ : ∃ w1, w.alloc (.cells #[.int .u64 v] 26) = w1 := ⟨_, rfl⟩
  rw [hw1] at HCL HBA hgl hgn
  have HGN := hide ((cell_of_row w1 w.heap.size 0 _ _ _ hgn).trans rfl : w1.cell? ⟨w.heap.size, 0, none⟩ = some (.int .u64 v))
  clear hL hw hl hba hgn
  go_enter Try.func20, Try.ntmps20
  go_upto_region 1 with fail
  try rw [hw1]
  clear hw1
  go_wp2_with fail
  refine (Calls.mono HCL.out ?_); rintro e w2 ⟨⟨u, rfl, ho⟩, hb⟩
  have hgu : u.ownBlock ≠ some w.heap.size := fun e => by
    rcases ho with ⟨rfl, _⟩ | ⟨g, cap, Q, rfl, h1, _⟩
    · cases e
    · have e2 : g = w.heap.size := Option.some.inj e
      omega
  have hT : TellsG 36 #[.pointer (some ⟨w.heap.size, 0, none⟩)] (oldT v) (cleanL L) u.ownBlock w2 := by
    intro x hx w' hg'
    refine oldc_any w.heap.size v x w' ?_ (Nat.lt_of_lt_of_le hgl (Nat.le_trans hb.size hg'.size))
    exact (World.cell?_of_block (hg'.block _ (Nat.lt_of_lt_of_le hgl hb.size) (fun e => hgu e.symm))).trans (keep_cell hb HGN.out hgl)
  have hbase : ∀ q, u.ownBlock = some q → w1.heap.size ≤ q := fun q hq => by
    rcases ho with ⟨rfl, _⟩ | ⟨g, cap, Q, rfl, h1, _⟩
    · cases hq
    · have e2 : g = q := Option.some.inj hq
      omega
  have HDL := hide (del_any 36 #[.pointer (some ⟨w.heap.size, 0, none⟩)] oldc_in (oldT v) w1.heap.size u (cleanL L) w2 ho hT)
  have HB2 := hide (below_step HBA.out hb)
  have HBS := hide hbase
  have hz1 := HBA.out.size
  clear hT ho hb hgu hbase HCL HGN
  go_wp2_with fail
  refine (Calls.mono HDL.out ?_); rintro e w3 ⟨v3, rfl, ho3, hw3, _⟩
  have HO3 := hide ho3
  have HB3 : Hid (Below w.heap.size w w3) := hide (HB2.out.grown hw3 HB2.out.size (fun q hq => Nat.le_trans hz1 (HBS.out q hq)))
  clear ho3 hw3 HDL
  go_wp2_with fail
  refine (Calls.mono (clip_og HO3.out) ?_); rintro e w4 ⟨⟨v4, rfl, ho4⟩, rfl⟩
  have HO4 := hide (ho4.base_ hz1)
  clear ho4
  go_wp2_with fail
  go_ret
  exact ⟨⟨_, rfl, HO4.out⟩, HB3.out⟩
end Go.Proofs.Ytfmckinlgaejeaa
