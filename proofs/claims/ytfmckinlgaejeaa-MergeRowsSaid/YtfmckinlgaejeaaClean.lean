/- merge.Clean: a contract. Conditions: the list readable, its items typed. -/
import Derived.Test.YtfmckinlgaejeaaHid
import Derived.Test.YtfmckinlgaejeaaPSt
import Derived.Test.YtfmckinlgaejeaaApp
namespace Go.Proofs.Ytfmckinlgaejeaa
set_option linter.unusedVariables false
set_option linter.unusedSimpArgs false
open Go.ChangeShapes Go.WideShapes Go.ChangeAt Go.RowKit

/-- The items that no delete hides. -/
def cleanL (L : List It) : List It := keepL (hidT (tombF L)) L
theorem clos_in : Enters Try.prog 40 := fun _ _ => by kernel_rfl
set_option maxRecDepth 100000 in
set_option maxHeartbeats 1600000 in
theorem clean_any (A : Option Addr) (c : Nat) (L : List It) (w : World) (hL : ItemsAt w A L) (hw : ∀ x ∈ L, x.wf) (hl : L.length ≤ 1099511627776) :
    Calls Try.prog 15 #[.slice A L.length c] w fun e w' => (∃ v, e = .returned v ∧ Og w.heap.size w' v (cleanL L)) ∧ Below w.heap.size w w' := by
  have HL := hide hL
  have HW := hide hw
  clear hL hw
  go_enter Try.func15, Try.ntmps15
  go_wp2_with (at_builtin; refine wpList_append_items rfl (.const (.slice none 0 0)) (.tmp 3) rfl w.heap.size w.heap.size w w _ [] A L.length c L rfl rfl rfl HL.out (Ow.nil_ _ _) (Below.refl _ _) (Nat.le_refl _) (Nat.le_refl _) (by simp only [List.length_nil]; omega) ?_; intro v1 w1 ho1 hb1 _; have HO1 := hide ho1; have HB1 := hide hb1; clear ho1 hb1)
  refine (Calls.mono (hider_any A c L w1 (HL.out.below HB1.out) HW.out hl) ?_); rintro e w2 ⟨g, b, n, rfl, hg, hm, hg1, hb1, hgl, hb2⟩
  have ho2 : Og w.heap.size w2 v1 L := (Ow.below HO1.out hb2).og
  have hlt : ∀ q, v1.ownBlock = some q → q < w1.heap.size := fun q hq => (OwnL.lt HO1.out q hq).2
  have hT : TellsG 40 #[.pointer (some ⟨g, 0, none⟩)] (hidT (tombF L)) L v1.ownBlock w2 := by
    intro x hx w' hg'
    have hng : v1.ownBlock ≠ some g := fun e => by have := hlt g e; omega
    have hnb : v1.ownBlock ≠ some b := fun e => by have := hlt b e; omega
    refine clos_any g b n (tombF L) x w' (HW.out x hx) ?_ (Nat.lt_of_lt_of_le hgl hg'.size) (hm.grown hg' (fun e => hnb e.symm))
    exact (World.cell?_of_block (hg'.block g hgl (fun e => hng e.symm))).trans hg
  have hbase : ∀ q, v1.ownBlock = some q → w.heap.size ≤ q := fun q hq => (OwnL.lt HO1.out q hq).1
  have HDL := hide (del_any 40 #[.pointer (some ⟨g, 0, none⟩)] clos_in (hidT (tombF L)) w.heap.size v1 L w2 ho2 hT)
  have HB2 := hide (below_step HB1.out hb2)
  have HBS := hide hbase
  clear hg hm ho2 hT hlt hb2 hbase
  go_wp2_with fail
  refine (Calls.mono HDL.out ?_); rintro e w3 ⟨v3, rfl, ho3, hw3, _⟩
  have HO3 := hide ho3
  have HB3 : Hid (Below w.heap.size w w3) := hide (HB2.out.grown hw3 HB2.out.size (fun q hq => HBS.out q hq))
  clear ho3 hw3 HDL
  go_wp2_with fail
  refine (Calls.mono (clip_og HO3.out) ?_); rintro e w4 ⟨⟨v4, rfl, ho4⟩, rfl⟩
  have HO4 := hide ho4
  clear ho4
  go_wp2_with fail
  go_ret
  exact ⟨⟨_, rfl, HO4.out⟩, HB3.out⟩
end Go.Proofs.Ytfmckinlgaejeaa
