/- (*mem.Mem).Apply: a contract. Conditions: the memory as it lies, the items readable apart from it. -/
import Derived.Test.YtoejhekmfgkklaaMem
import Derived.Test.YtoejhekmfgkklaaKey
import Derived.Test.YtoejhekmfgkklaaCon
import Derived.Deep.RegionHeld3
namespace Go.Proofs.Ytoejhekmfgkklaa
set_option linter.unusedVariables false
set_option linter.unusedSimpArgs false
open Go.ChangeShapes Go.WideShapes Go.ChangeAt Go.RowKit

theorem ItemsAt.sets {S : Nat → Prop} {w w' : World} {A : Option Addr} {L : List It} (h : ItemsAt w A L) (k : Sets S w w') (hS : ∀ a, A = some a → L ≠ [] → ¬ S a.block) : ItemsAt w' A L := fun hn => by
  obtain ⟨b, off, rfl, hlt, hc⟩ := h hn
  exact ⟨b, off, rfl, Nat.lt_of_lt_of_le hlt k.size, fun i hi j u hu => (World.cell?_of_block (k.block b hlt (hS _ rfl hn))).trans (hc i hi j u hu)⟩
/-- What Apply answers; what is there behind it. -/
def apE (f : Bool) (L : List It) : Int := if f then 14 else if anyI (fun x => !goodB x) L then 1 else 0
def puts (L W : List It) : List It := L.foldl (fun W x => skP x W) W
def apL (f : Bool) (L W : List It) : List It := if apE f L = 0 then puts L W else W
structure ApTo (w w' : World) (b p : Nat) (F : List Nd) (f : Bool) (n : Int) (L : List It) (F' : List Nd) (n' : Int) : Prop where
  at_ : MemAt w' b p F' f n'
  its : itsF F' = apL f L (itsF F)
  len : F'.length ≤ F.length + L.length
  own : ∀ c, SBlk p F' c → SBlk p F c ∨ w.heap.size ≤ c
  sets : Sets (MBlk b p F) w w'
  size : n' = if apE f L = 0 then 28 * ((F'.length : Int) - 1) else n
theorem tells_bad (L : List It) (w : World) : Tells 26 #[] (fun x => !goodB x) L w := by
  intro x hx w1 hb
  show Calls Try.prog 26 #[x.val] w1 fun e w2 => e = .returned (.bool (!goodB x)) ∧ Below w1.heap.size w1 w2
  have HG := hide (fun W => pgood_any x W)
  generalize goodB x = g at *
  have hba := below_alloc (Below.refl w1.heap.size w1) (.cells (It.cells x).toArray 24)
  have HB := hide hba
  clear hba hb
  go_enter Try.func26, Try.ntmps26
  go_wp2_with fail
  refine (Calls.mono (HG.out _) ?_); rintro e w2 ⟨rfl, hb2⟩
  have HB2 := hide (below_step HB.out hb2)
  clear hb2 HB
  cases g
  · go_wp2_with fail
    go_ret
    exact ⟨rfl, HB2.out⟩
  · go_wp2_with fail
    go_ret
    exact ⟨rfl, HB2.out⟩
theorem istore_any (b : Nat) (n m : Int) (w : World) (h : w.cell? ⟨b, 5, none⟩ = some (.int .i64 n)) (hz : w.frozen? ⟨b, 5, none⟩ = false) :
    Calls Try.prog 29 #[.pointer (some ⟨b, 5, none⟩), .int .i64 m] w fun e w' => e = .returned (.tuple #[]) ∧ w' = w.setCell ⟨b, 5, none⟩ (.int .i64 m) := by
  have hst := run_call_store (P := Try.prog) Try.func47 (by kernel_rfl) (by kernel_rfl) (by kernel_rfl) (by kernel_rfl) (k := .i64) (y := m) h hz
  go_enter Try.func29, Try.ntmps29
  go_wp2
  go_end0
  exact ⟨rfl, rfl⟩
theorem enters_bad : Enters Try.prog 26 := fun _ _ => by kernel_rfl

theorem mem_put5 {w : World} {b p : Nat} {d : Int} {f : Bool} {n : Int} {t : TypeId} (m : Int) (h : w.heap[b]? = some (.cells (memC p d f n) t (0, 0))) : (w.setCell ⟨b, 5, none⟩ (.int .i64 m)).heap[b]? = some (.cells (memC p d f m) t (0, 0)) := by
  simp [World.setCell, Array.getElem?_modify, h, memC]
theorem ap_last {w wr W : World} {b p : Nat} {F F' : List Nd} {n : Int} {L : List It} (m : Int) (he : apE false L = 0) (hm : MemAt wr b p F' false n) (hi : itsF F' = puts L (itsF F)) (hl : F'.length ≤ F.length + L.length) (ho : ∀ c, SBlk p F' c → SBlk p F c ∨ w.heap.size ≤ c) (hs : Sets (MBlk b p F) w wr)
    (hW : Below wr.heap.size wr W) (hz : m = 28 * ((F'.length : Int) - 1)) : ApTo w (W.setCell ⟨b, 5, none⟩ (.int .i64 m)) b p F false n L F' m := by
  have hm' := hm.below hW
  have hst : Sets (fun c => c = b) W (W.setCell ⟨b, 5, none⟩ (.int .i64 m)) := (Sets.refl (S := fun c => c = b) W).set (g := b) (fun _ => rfl) 5 _
  refine ⟨⟨hm'.sk.sets hst (fun c hc e => hm'.ne (e ▸ hc)), hm'.ok, mem_put5 m hm'.box, hm'.ne⟩, ?_, hl, ho, ?_, ?_⟩
  · unfold apL
    rw [he, hi]
    rfl
  · exact (hs.trans (Sets.of (S := fun _ => False) hW) (fun _ _ h => h.elim)).trans hst (fun _ _ e => .inl e)
  · rw [he, hz]
    rfl
theorem ap_next {w wr W v : World} {b p : Nat} {F F' F2 : List Nd} {n : Int} {x : It} {h : Int} (hm : MemAt wr b p F' false n) (hs : Sets (MBlk b p F) w wr) (ho : ∀ c, SBlk p F' c → SBlk p F c ∨ w.heap.size ≤ c) (hW : Below wr.heap.size wr W) (hP : PutTo W v p F' x h F2) :
    MemAt v b p F2 false n ∧ (∀ c, SBlk p F2 c → SBlk p F c ∨ w.heap.size ≤ c) ∧ Sets (MBlk b p F) w v := by
  have hz1 := hs.size
  have hz2 := hW.size
  have hb := hm.lb
  refine ⟨⟨hP.at_, hP.ok, (hP.sets.block b (by omega) hm.ne).trans ((hW.block b hb).trans hm.box), fun e => ?_⟩, fun c hc => ?_, ?_⟩
  · rcases hP.own b e with h | h
    · exact hm.ne h
    · omega
  · rcases hP.own c hc with h | h
    · exact ho c h
    · right; omega
  · refine (hs.trans (Sets.of (S := fun _ => False) hW) (fun _ _ h => h.elim)).trans hP.sets (fun i hi h => ?_)
    rcases ho i h with e | e
    · exact .inr e
    · omega

set_option maxRecDepth 100000 in
set_option maxHeartbeats 3200000 in
theorem apply_any (b p : Nat) (F : List Nd) (f : Bool) (n : Int) (A : Option Addr) (c : Nat) (L : List It) (w : World) (hM : MemAt w b p F f n) (hL : ItemsAt w A L) (hw : ∀ x ∈ L, x.wf) (hlen : F.length + L.length ≤ 1099511627776) (hA : ∀ a, A = some a → L ≠ [] → ¬ MBlk b p F a.block) :
    Calls Try.prog 12 #[.pointer (some ⟨b, 0, none⟩), .slice A L.length c] w fun e w' => ∃ F' n', e = .returned (.int .i64 (apE f L)) ∧ ApTo w w' b p F f n L F' n' := by
  obtain ⟨_, ⟨m0, m1, m2, m3, m4, m5⟩, mz⟩ := mem_box hM.box
  cases f with
  | true =>
    have HA := hide (show ApTo w w b p F true n L F n from ⟨hM, rfl, by omega, fun c h => .inl h, Sets.refl _, rfl⟩)
    clear hM hL hw hA m0 m1 m2 m3 m5 mz
    go_enter Try.func12, Try.ntmps12
    go_wp2_with fail
    go_ret
    exact ⟨F, n, rfl, HA.out⟩
  | false =>
    have HCN := hide (contains_any 26 #[] enters_bad (fun x => !goodB x) A c L w (by omega) hL (tells_bad L w))
    cases hbad : anyI (fun x => !goodB x) L with
    | true =>
      rw [hbad] at HCN
      have he : apE false L = 1 := by unfold apE; simp [hbad]
      have HA := hide (fun (w' : World) (hb : Below w.heap.size w w') => show ApTo w w' b p F false n L F n from ⟨hM.below hb, by unfold apL; rw [he]; rfl, by omega, fun c h => .inl h, Sets.of hb, by rw [he]; rfl⟩)
      rw [he]
      clear hM hL hw hA m0 m1 m2 m3 m5 mz hbad he
      go_enter Try.func12, Try.ntmps12
      go_wp2_with fail
      refine (Calls.mono HCN.out ?_); rintro e w1 ⟨rfl, hb1⟩
      have HB := hide hb1
      clear hb1
      go_wp2_with fail
      go_ret
      exact ⟨F, n, rfl, HA.out _ HB.out⟩
    | false =>
      rw [hbad] at HCN
      have he : apE false L = 0 := by unfold apE; simp [hbad]
      rw [he]
      have hgood : ∀ x ∈ L, goodB x = true := by
        intro x hx
        unfold anyI at hbad
        rw [List.any_eq_false] at hbad
        have := hbad x hx
        simpa using this
      have HP := hide hgood
      have HI := hide hL
      have HWF := hide hw
      have HAA := hide hA
      have HM0 := hide hM
      clear hL hw hA m0 m1 m2 m3 m5 mz hbad hgood hM
      have HS0 : Hid (∀ w' : World, Below w.heap.size w w' → Sets (MBlk b p F) w w') := hide (fun w' h => Sets.of h)
      go_enter Try.func12, Try.ntmps12
      go_wp2_with fail
      refine (Calls.mono HCN.out ?_); rintro e w1 ⟨rfl, hb1⟩
      have HSE := hide (HS0.out _ hb1)
      have HM1 := hide (HM0.out.below hb1)
      clear hb1 HS0 HCN
      go_wp2_with fail
      go_loopw [17] (fun i wr => ∃ (k : Nat) (F' : List Nd), i = .int .i64 k ∧ k ≤ L.length ∧ MemAt wr b p F' false n ∧ itsF F' = puts (L.take k) (itsF F) ∧ F'.length ≤ F.length + k ∧ (∀ c, SBlk p F' c → SBlk p F c ∨ w.heap.size ≤ c) ∧ Sets (MBlk b p F) w wr) (fun i _ => L.length - (intOf i).toNat)
      case atStart => exact ⟨0, F, rfl, by omega, HM1.out, rfl, by omega, fun c h => .inl h, HSE.out⟩
      case round =>
        clear HM1 HSE
        obtain ⟨k, F', rfl, hk, hm, hi, hl, ho, hs⟩ := hrel
        have HM := hide hm
        have HIT := hide hi
        have HO := hide ho
        have HS := hide hs
        clear hi ho
        have hMb := hm.lb
        obtain ⟨_, ⟨m0, m1, m2, m3, m4, m5⟩, mz⟩ := mem_box hm.box
        have mz5 := mz 5
        clear m1 m2 m3 m4 mz
        by_cases hlt : k < L.length
        · clear m5 mz5
          obtain ⟨bl, off, hAe, hbb, y0, y1, y2, y3, y4⟩ := ItemsAt.item (HI.out.sets hs HAA.out) (Below.refl _ _) hlt
          have hgo := HP.out L[k] (List.getElem_mem _)
          have hwf := HWF.out L[k] (List.getElem_mem _)
          have hpt : puts (L.take (k + 1)) (itsF F) = skP L[k] (puts (L.take k) (itsF F)) := by unfold puts; rw [List.take_succ_eq_append_getElem hlt, List.foldl_append]; rfl
          clear hm hs
          generalize L[k] = x at *
          subst hAe
          have HG := hide hgo
          have HWX := hide hwf
          have HPU := hide hpt
          clear hgo hwf hpt
          have hltI : (k : Int) < (L.length : Int) := by omega
          obtain ⟨wx, hwx⟩ : ∃ wx, wr.alloc (.cells #[.int .i64 x.s, .int .i64 x.k, .int .u64 x.t, .int .u64 x.v, .int .i64 x.x] 24) = wx := ⟨_, rfl⟩
          have hbx : Below wr.heap.size wr wx := by rw [← hwx]; exact below_alloc (Below.refl _ _) _
          have hgx : BxAt wx wr.heap.size x := by rw [← hwx]; exact BxAt.box (x := x) (heap_alloc_new wr _)
          have hbz : b ≠ wr.heap.size := by omega
          have HK : Hid (∀ W : World, Below wx.heap.size wx W → W.cell? ⟨b, 0, none⟩ = some (.pointer (some ⟨p, 0, none⟩)) ∧ W.cell? ⟨wr.heap.size, 0, none⟩ = some (.int .i64 x.s) ∧ W.cell? ⟨wr.heap.size, 1, none⟩ = some (.int .i64 x.k) ∧ W.cell? ⟨wr.heap.size, 2, none⟩ = some (.int .u64 x.t) ∧ W.cell? ⟨wr.heap.size, 3, none⟩ = some (.int .u64 x.v) ∧ W.cell? ⟨wr.heap.size, 4, none⟩ = some (.int .i64 x.x)) := by
            refine hide fun W hW => ?_
            obtain ⟨g0, g1, g2, g3, g4, g5⟩ := hgx
            exact ⟨ck (Nat.lt_of_lt_of_le hMb hbx.size) (ck hMb m0 hbx) hW, ck g0 g1 hW, ck g0 g2 hW, ck g0 g3 hW, ck g0 g4 hW, ck g0 g5 hW⟩
          have HH := hide (fun W => height_any x W HWX.out)
          have HHB := hide (hgt_bd (keyL x))
          generalize hgt (keyL x) = h at *
          have HPT : Hid (∀ W : World, Below wx.heap.size wx W → Calls Try.prog 28 #[.pointer (some ⟨p, 0, none⟩), x.val, .int .i64 h] W fun e w' => ∃ r F2, e = .returned r ∧ MemAt w' b p F2 false n ∧ itsF F2 = puts (L.take (k + 1)) (itsF F) ∧ F2.length ≤ F.length + (k + 1) ∧ (∀ c, SBlk p F2 c → SBlk p F c ∨ w.heap.size ≤ c) ∧ Sets (MBlk b p F) w w' ∧ (w'.cell? ⟨b, 0, none⟩ = some (.pointer (some ⟨p, 0, none⟩)) ∧ w'.cell? ⟨wr.heap.size, 0, none⟩ = some (.int .i64 x.s) ∧ w'.cell? ⟨wr.heap.size, 1, none⟩ = some (.int .i64 x.k) ∧ w'.cell? ⟨wr.heap.size, 2, none⟩ = some (.int .u64 x.t) ∧ w'.cell? ⟨wr.heap.size, 3, none⟩ = some (.int .u64 x.v) ∧ w'.cell? ⟨wr.heap.size, 4, none⟩ = some (.int .i64 x.x))) := by
            refine hide fun W hW => ?_
            have hbW := below_step hbx hW
            refine Calls.mono (skput_any p F' x h W (HM.out.sk.below hbW) HM.out.ok (by omega)) ?_
            rintro e v ⟨F2, rfl, hP⟩
            obtain ⟨h1, h2, h3⟩ := ap_next HM.out HS.out HO.out hbW hP
            have hgW : wr.heap.size < W.heap.size := Nat.lt_of_lt_of_le hgx.1 hW.size
            have hbl : v.heap[wr.heap.size]? = W.heap[wr.heap.size]? := hP.sets.block _ hgW (fun e => Nat.lt_irrefl _ (HM.out.sk.lt _ e))
            obtain ⟨k0, k1, k2, k3, k4, k5⟩ := HK.out W hW
            refine ⟨_, F2, rfl, h1, ?_, by have := hP.len; omega, h2, h3, (mem_box h1.box).2.1.1, (World.cell?_of_block hbl).trans k1, (World.cell?_of_block hbl).trans k2, (World.cell?_of_block hbl).trans k3, (World.cell?_of_block hbl).trans k4, (World.cell?_of_block hbl).trans k5⟩
            rw [hP.its, HPU.out, HIT.out]
            unfold skL
            rw [if_pos (okP_iff.2 ⟨HG.out, HHB.out.1, HHB.out.2⟩)]
          clear hbx hgx hbz HM HIT HO HS HPU HG HWX HHB m0
          go_upto_region 8 with fail
          try rw [hwx]
          clear hwx y0 y1 y2 y3 y4
          obtain ⟨x0, x1, x2, x3, x4, x5⟩ := HK.out wx (Below.refl _ _)
          generalize wr.heap.size = gx at *
          go_region_held3 (fun W' => W'.cell? ⟨b, 0, none⟩ = some (.pointer (some ⟨p, 0, none⟩)) ∧ W'.cell? ⟨gx, 0, none⟩ = some (.int .i64 x.s) ∧ W'.cell? ⟨gx, 1, none⟩ = some (.int .i64 x.k) ∧ W'.cell? ⟨gx, 2, none⟩ = some (.int .u64 x.t) ∧ W'.cell? ⟨gx, 3, none⟩ = some (.int .u64 x.v) ∧ W'.cell? ⟨gx, 4, none⟩ = some (.int .i64 x.x)) (first | exact Q6.out | exact HK.out _ (by repeat (first | exact HB1.out | exact Below.refl _ _ | refine Below.drew ?_))) (first
            | (go_at_call 9; refine (Calls.mono (HH.out _) ?_); rintro e v1 ⟨rfl, hb1⟩; have HB1 := hide (show Below wx.heap.size wx v1 from (below_step (by repeat (first | exact Below.refl _ _ | refine Below.drew ?_)) hb1)); clear hb1)
            | (go_at_call 28; refine (Calls.mono (HPT.out _ (by repeat (first | exact HB1.out | refine Below.drew ?_))) ?_); rintro e v2 ⟨r, F2, rfl, q1, q2, q3, q4, q5, q6⟩; have Q6 := hide q6;  have Q1 := hide q1; have Q2 := hide q2; have Q3 := hide q3; have Q4 := hide q4; have Q5 := hide q5; clear q1 q2 q3 q4 q5 q6))
          go_wp2_with fail
          go_roundw
          case rel => exact ⟨k + 1, F2, by go_num, by omega, Q1.out, Q2.out, Q3.out, Q4.out, Q5.out⟩
          case measure => (simp [intOf] <;> omega)
        · obtain rfl : k = L.length := by omega
          have hgeI : ¬ (L.length : Int) < (L.length : Int) := by omega
          clear hm hs
          obtain ⟨z, hz⟩ : ∃ z : Int, (F'.length : Int) - 1 = z := ⟨_, rfl⟩
          have hz0 : -1 ≤ z ∧ z ≤ 1099511627776 := by omega
          have hw28 : IntKind.i64.wrap (z * 28) = z * 28 := by rw [IntKind.wrap_i64]; omega
          have HLN : Hid (∀ W : World, Below wr.heap.size wr W → Calls Try.prog 30 #[.pointer (some ⟨p, 0, none⟩)] W fun e w' => e = .returned (.int .i64 z) ∧ w' = W) := by
            refine hide fun W hW => ?_
            have := len_any p F' W (HM.out.sk.below hW)
            rw [hz] at this
            exact this
          have HIS : Hid (∀ W : World, Below wr.heap.size wr W → Calls Try.prog 29 #[.pointer (some ⟨b, 5, none⟩), .int .i64 (z * 28)] W fun e w' => e = .returned (.tuple #[]) ∧ ApTo w w' b p F false n L F' (z * 28) ∧ w'.cell? ⟨b, 0, none⟩ = some (.pointer (some ⟨p, 0, none⟩))) := by
            refine hide fun W hW => ?_
            refine Calls.mono (istore_any b n (z * 28) W (ck hMb m5 hW) ((hW.frozen (p := ⟨b, 5, none⟩) hMb).trans mz5)) ?_
            rintro e w' ⟨rfl, rfl⟩
            have hit := HIT.out
            rw [List.take_length] at hit
            have ha := ap_last (z * 28) he HM.out hit (by omega) HO.out HS.out hW (by omega)
            exact ⟨rfl, ha, (mem_box ha.at_.box).2.1.1⟩
          have HK : Hid (∀ W : World, Below wr.heap.size wr W → W.cell? ⟨b, 0, none⟩ = some (.pointer (some ⟨p, 0, none⟩))) := hide fun W hW => ck hMb m0 hW
          clear hz HM HIT HO HS mz5 m5 hz0
          go_upto_region 10 with fail
          go_region_held3 (fun W' => W'.cell? ⟨b, 0, none⟩ = some (.pointer (some ⟨p, 0, none⟩))) (first | exact Q2.out | exact HK.out _ (by repeat (first | exact Below.refl _ _ | refine Below.drew ?_))) (first
            | (go_at_call 30; refine (Calls.mono (HLN.out _ (by repeat (first | exact Below.refl _ _ | refine Below.drew ?_))) ?_); rintro e v1 ⟨rfl, rfl⟩)
            | (go_at_call 29; refine (Calls.mono (HIS.out _ (by repeat (first | exact Below.refl _ _ | refine Below.drew ?_))) ?_); rintro e v2 ⟨rfl, q1, q2⟩; have Q1 := hide q1; have Q2 := hide q2; clear q1 q2))
          go_wp2_with fail
          go_ret
          exact ⟨F', _, rfl, Q1.out⟩
end Go.Proofs.Ytoejhekmfgkklaa
