/- The walk of clepsydralaw8.SkipAnyway: it returns true. Conditions: the arguments are readable. -/
import Derived.Test.YtkhagbifbcdpnaaSkA
import Derived.Test.YtkhagbifbcdpnaaREq
import Derived.Test.YtkhagbifbcdpnaaBits
namespace Go.Proofs.Ytkhagbifbcdpnaa.skipAnyway
set_option linter.unusedVariables false
set_option linter.unusedSimpArgs false
open Go.ChangeShapes Go.WideShapes Go.ChangeAt Go.RowKit

/-- Two lists apart. -/
structure Two (w0 w : World) (pa : Nat) (Fa : List Nd) (pb : Nat) (Fb : List Nd) : Prop where
  a : SkAt w pa Fa
  ka : SkOk Fa
  b : SkAt w pb Fb
  kb : SkOk Fb
  ap : ∀ c, SBlk pa Fa c → ¬ SBlk pb Fb c
  ba : ∀ c, SBlk pa Fa c → w0.heap.size ≤ c
  bb : ∀ c, SBlk pb Fb c → w0.heap.size ≤ c
  low : Below w0.heap.size w0 w
theorem Two.below {w0 w w' : World} {pa pb : Nat} {Fa Fb : List Nd} (h : Two w0 w pa Fa pb Fb) (hb : Below w.heap.size w w') : Two w0 w' pa Fa pb Fb :=
  ⟨h.a.below hb, h.ka, h.b.below hb, h.kb, h.ap, h.ba, h.bb, below_step h.low hb⟩
theorem Two.swap {w0 w : World} {pa pb : Nat} {Fa Fb : List Nd} (h : Two w0 w pa Fa pb Fb) : Two w0 w pb Fb pa Fa := ⟨h.b, h.kb, h.a, h.ka, fun c hb ha => h.ap c ha hb, h.bb, h.ba, h.low⟩
theorem Two.put {w0 w w' : World} {pa pb : Nat} {Fa Fb Fa' : List Nd} {x : It} {m : Int} (h : Two w0 w pa Fa pb Fb) (k : PutTo w w' pa Fa x m Fa') : Two w0 w' pa Fa' pb Fb :=
  ⟨k.at_, k.ok, h.b.sets k.sets (fun c hb ha => h.ap c ha hb), h.kb, fun c ha hb => by
    rcases k.own c ha with e | e
    · exact h.ap c e hb
    · exact absurd (h.b.lt c hb) (by omega), k.base h.ba h.low.size, h.bb, k.below h.low h.ba (Nat.le_refl _)⟩
theorem lv_all {F : List Nd} (h : SkOk F) : lvL F 0 = itsF F := by
  unfold lvL itsF
  congr 1
  rw [List.filter_eq_self]
  intro n hn
  have := (h.hts n (List.mem_of_mem_drop hn)).1
  simp
  omega
theorem top_step {M L : List It} {k : Nat} (h : IsTop (goods (M.take k)) L) (hk : k < M.length) (m : Int) (h1 : 1 ≤ m) (h6 : m ≤ 6) : IsTop (goods (M.take (k + 1))) (skL (M[k]'hk) m L) := by
  have hx : ∀ z, z ∈ M.take (k + 1) ↔ z = M[k] ∨ z ∈ M.take k := fun z => by rw [List.take_succ_eq_append_getElem hk, List.mem_append, List.mem_singleton]; exact or_comm
  by_cases hg : goodB (M[k]'hk) = true
  · have e : skL (M[k]'hk) m L = skP (M[k]'hk) L := if_pos (okP_iff.2 ⟨hg, h1, h6⟩)
    rw [e]
    refine (skP_top h (M[k]'hk)).congr fun z => ?_
    rw [mem_goods, hx, List.mem_cons, mem_goods]
    have hgd : It.good (M[k]'hk) := by simpa [goodB] using hg
    constructor
    · rintro (rfl | ⟨a, b⟩)
      · exact ⟨.inl rfl, hgd⟩
      · exact ⟨.inr a, b⟩
    · rintro ⟨rfl | a, b⟩
      · exact .inl rfl
      · exact .inr ⟨a, b⟩
  · have e : skL (M[k]'hk) m L = L := if_neg (fun e => hg (okP_iff.1 e).1)
    rw [e]
    refine h.congr fun z => ?_
    rw [mem_goods, mem_goods, hx]
    have hgd : ¬ It.good (M[k]'hk) := by simpa [goodB] using hg
    constructor
    · rintro ⟨a, b⟩
      exact ⟨.inr a, b⟩
    · rintro ⟨rfl | a, b⟩
      · exact absurd b hgd
      · exact ⟨a, b⟩
/-- The items turned by t. -/
def turned (L : List It) (t n : Nat) : List It := (List.range n).map fun j => L[(j + t) % n]?.getD It.zero
theorem turned_len (L : List It) (t n : Nat) : (turned L t n).length = n := by simp [turned]
theorem turned_get {L : List It} {t n k : Nat} (hk : k < (turned L t n).length) (hn : n ≤ L.length) (h : (k + t) % n < L.length) : (turned L t n)[k] = L[(k + t) % n] := by
  apply Option.some.inj
  rw [← List.getElem?_eq_getElem, ← List.getElem?_eq_getElem]
  unfold turned
  have hk2 : k < n := by rw [turned_len] at hk; exact hk
  rw [List.getElem?_map, List.getElem?_range hk2, Option.map_some, List.getElem?_eq_getElem h]
  rfl
theorem turned_mem {L : List It} {t n : Nat} (hn : n ≤ L.length) (z : It) : z ∈ turned L t n ↔ z ∈ L.take n := by
  by_cases h0 : n = 0
  · subst h0
    simp [turned]
  constructor
  · intro h
    obtain ⟨k, hk, rfl⟩ := List.mem_iff_getElem.1 h
    have hq : (k + t) % n < n := Nat.mod_lt _ (by omega)
    rw [turned_get hk hn (by omega)]
    rw [List.mem_iff_getElem]
    exact ⟨(k + t) % n, by simp; omega, by simp⟩
  · intro h
    obtain ⟨q, hq, rfl⟩ := List.mem_iff_getElem.1 h
    have hq2 : q < n ∧ q < L.length := by simp at hq; omega
    rw [List.mem_iff_getElem]
    have hm : t % n < n := Nat.mod_lt _ (by omega)
    refine ⟨(q + (n - t % n)) % n, by rw [turned_len]; exact Nat.mod_lt _ (by omega), ?_⟩
    have e : ((q + (n - t % n)) % n + t) % n = q := by
      have e1 : ((q + (n - t % n)) % n + t) % n = ((q + (n - t % n)) + t % n) % n := by rw [Nat.add_mod, Nat.mod_mod, ← Nat.add_mod, Nat.add_mod, Nat.add_mod (q + (n - t % n)) (t % n), Nat.mod_mod]
      rw [e1, show q + (n - t % n) + t % n = q + n by omega, Nat.add_mod_right, Nat.mod_eq_of_lt hq2.1]
    rw [turned_get _ hn (by rw [e]; omega)]
    simp only [e]
    simp
theorem mod_nat (k t n : Nat) : ((k : Int) + (t : Int)) % (n : Int) = (((k + t) % n : Nat) : Int) := by norm_cast
theorem and_255 (a : Int) (h : -9223372036854775808 ≤ a ∧ a ≤ 9223372036854775807) : ∃ t : Nat, bits .and .i64 a 255 = (t : Int) ∧ t ≤ 255 := by
  refine ⟨(a % 256).toNat, ?_, by omega⟩
  rw [and_mask_i64 a 8 255 (by omega) (by decide)]
  omega
set_option maxHeartbeats 3200000 in
set_option maxRecDepth 100000 in
theorem walk {w : World} (A0 : Option Addr) (c0 : Nat) (L0 : List It) (lc0 : L0.length ≤ c0) (cm0 : c0 ≤ maxLen) (r0 : RowAt It.cells 5 w A0 L0) (w0 : ∀ a ∈ L0, a.wf)
    (a1 : Int) (w1 : (Lit.int .i64 a1).wf = true) :
    Calls Try.prog 3 #[.slice A0 L0.length c0, .int .i64 a1] w fun e w' => e = .returned (.bool true) ∧ Below w.heap.size w w' := by
  have b1 := bounds_i64 w1
  obtain ⟨t, ht, ht2⟩ := and_255 a1 b1
  have HL := hide r0
  clear r0 w0 w1
  unfold maxLen at cm0
  go_enter Try.func3, Try.ntmps3
  go_wp2_with fail
  refine (Calls.mono (new_any _) ?_); rintro e w1 ⟨pa, Ha, rfl, hSa, hoa, hg1⟩
  have HA := hide hSa
  have HOA := hide hoa
  have HG1 := hide hg1
  clear hSa hoa hg1
  go_wp2_with fail
  refine (Calls.mono (new_any _) ?_); rintro e w2 ⟨pb, Hb, rfl, hSb, hob, hg2⟩
  have HT0 : Hid (Two w w2 pa [Ha] pb [Hb]) := hide ⟨HA.out.below hg2, new_ok HA.out, hSb, new_ok hSb, fun c h1 h2 => by have := HA.out.lt c h1; have := hob c h2; omega, HOA.out, fun c hc => by have := HG1.out.size; have := hob c hc; omega, below_step HG1.out hg2⟩
  clear hSb hob hg2 HA HOA HG1
  go_upto_region 2 with fail
  go_cut [7] (fun v W => ∃ n : Nat, v = .int .i64 n ∧ n ≤ L0.length ∧ n ≤ 60 ∧ W = w2)
  case first =>
    go_wp2_with fail
    all_goals go_meet
    all_goals (first | exact ⟨60, rfl, by omega, by omega, rfl⟩ | exact ⟨L0.length, rfl, by omega, by omega, rfl⟩)
  case rest =>
    obtain ⟨n, rfl, hnL, hn60, rfl⟩ := hcut
    go_wp2_with fail
    go_loopw [8] (fun i wr => ∃ (k : Nat) (Fa Fb : List Nd), i = .int .i64 k ∧ k ≤ n ∧ Two w wr pa Fa pb Fb ∧ Fa.length ≤ k + 1 ∧ Fb.length ≤ k + 1 ∧ IsTop (goods ((L0.take n).take k)) (itsF Fa) ∧ IsTop (goods ((turned L0 t n).take k)) (itsF Fb)) (fun i _ => n - (intOf i).toNat)
    case atStart => exact ⟨0, [Ha], [Hb], rfl, by omega, HT0.out, by simp, by simp, isTop_nil, isTop_nil⟩
    case round =>
      clear HT0
      obtain ⟨k, Fa, Fb, rfl, hk, hT, hla, hlb, hIa, hIb⟩ := hrel
      have HT := hide hT
      have HIa := hide hIa
      have HIb := hide hIb
      clear hT hIa hIb
      by_cases hlt : k < n
      · have hpos : (0 : Int) < (n : Int) := by omega
        have hkI : (k : Int) < (n : Int) := by omega
        obtain ⟨q, hq, hq2, hq3⟩ : ∃ q : Nat, ((k : Int) + (t : Int)) % (n : Int) = (q : Int) ∧ q < L0.length ∧ q = (k + t) % n := ⟨(k + t) % n, mod_nat k t n, by have := Nat.mod_lt (k + t) (show n > 0 by omega); omega, rfl⟩
        have hkL : k < L0.length := by omega
        obtain ⟨m, hm, hm1⟩ : ∃ m : Nat, (k : Int) % 6 = (m : Int) ∧ m ≤ 5 := ⟨k % 6, by omega, by omega⟩
        have HI1 := hide (top_step HIa.out (k := k) (by simp; omega) ((m : Int) + 1) (by omega) (by omega))
        have HI2 := hide (top_step HIb.out (k := k) (by rw [turned_len]; exact hlt) (6 - (m : Int)) (by omega) (by omega))
        have e1 : (L0.take n)[k]'(by simp; omega) = L0[k] := by simp
        have e2 : (turned L0 t n)[k]'(by rw [turned_len]; exact hlt) = L0[q] := by subst hq3; exact turned_get _ hnL _
        rw [e1] at HI1
        rw [e2] at HI2
        clear e1 e2
        obtain ⟨bl, off, hA, hbb, y0, y1, y2, y3, y4⟩ := ItemsAt.item HL.out HT.out.low hkL
        subst hA
        have hqL : (q : Int) < (L0.length : Int) := by omega
        have hkLI : (k : Int) < (L0.length : Int) := by omega
        clear hq3 HIa HIb
        generalize L0[k] = y at *
        go_wp2_with fail
        refine (Calls.mono (put_any pa Fa y ((m : Int) + 1) _ HT.out.a HT.out.ka (by omega)) ?_); rintro e v1 ⟨Fa', rfl, hP⟩
        have HT1 := hide (HT.out.put hP)
        rw [← hP.its] at HI1
        have hla1 := hP.len
        clear hP HT y0 y1 y2 y3 y4
        obtain ⟨bl2, off2, hA2, hbb2, z0, z1, z2, z3, z4⟩ := ItemsAt.item HL.out HT1.out.low hq2
        injection hA2 with hA2
        injection hA2 with hA3 hA4
        subst hA3 hA4
        generalize L0[q] = z at *
        go_wp2_with fail
        refine (Calls.mono (put_any pb Fb z (6 - (m : Int)) _ HT1.out.b HT1.out.kb (by omega)) ?_); rintro e v2 ⟨Fb', rfl, hP⟩
        have HT2 := hide (HT1.out.swap.put hP).swap
        rw [← hP.its] at HI2
        have hlb1 := hP.len
        clear hP HT1 z0 z1 z2 z3 z4
        go_wp2_with fail
        go_roundw
        case rel => exact ⟨k + 1, Fa', Fb', by go_num, by omega, HT2.out, by omega, by omega, HI1.out, HI2.out⟩
        case measure => simp [intOf]; omega
      · obtain rfl : k = n := by omega
        have hta : IsTop (goods (L0.take k)) (itsF Fa) := by have := HIa.out; rwa [List.take_of_length_le (by simp; omega)] at this
        have htb : IsTop (goods (turned L0 t k)) (itsF Fb) := by have := HIb.out; rwa [List.take_of_length_le (by rw [turned_len]; omega)] at this
        have hE : itsF Fb = itsF Fa := (htb.congr (fun z => by rw [mem_goods, mem_goods, turned_mem hnL])).uniq hta
        have HR := hide hta.up
        have HAA := hide (all_any pa Fa wr HT.out.a (by omega))
        rw [lv_all HT.out.ka] at HAA
        have HAB := hide (fun W (hW : Below wr.heap.size wr W) => all_any pb Fb W (HT.out.b.below hW) (by omega))
        rw [lv_all HT.out.kb, hE] at HAB
        have HLN := hide (fun W (hW : Below wr.heap.size wr W) => len_any pa Fa W (HT.out.a.below hW))
        have hln : (Fa.length : Int) - 1 = ((itsF Fa).length : Int) := by
          have h1 := its_len Fa
          have h2 := HT.out.a.pos.1
          omega
        rw [hln] at HLN
        have hl60 : (itsF Fa).length ≤ 60 := by rw [its_len]; omega
        have HB := hide HT.out.low
        clear hln hta htb hE HIa HIb HT
        generalize itsF Fa = X at *
        go_wp2_with fail
        refine (Calls.mono HAA.out ?_); rintro e v1 ⟨x, rfl, ho, hg1⟩
        obtain ⟨Ax, cx, rfl, hrx, hcx, hcm⟩ := ho.sl
        have HX := hide hrx
        have HG1 := hide hg1
        have HCX := hide hcx
        clear ho hrx hg1 HAA
        unfold maxLen at hcm
        go_wp2_with fail
        go_loopw [10] (fun i wr => ∃ j : Nat, i = .int .i64 j ∧ 1 ≤ j ∧ j ≤ X.length + 1 ∧ Below v1.heap.size v1 wr) (fun i _ => X.length + 1 - (intOf i).toNat)
        case atStart => exact ⟨1, rfl, by omega, by omega, Below.refl _ _⟩
        case round =>
          obtain ⟨j, rfl, hj1, hj2, hb⟩ := hrel
          have HBV := hide hb
          clear hb
          by_cases hjx : j < X.length
          · obtain ⟨bl, off, hA, hbb, y0, y1, y2, y3, y4⟩ := ItemsAt.item HX.out HBV.out hjx
            obtain ⟨bl2, off2, hA2, hbb2, z0, z1, z2, z3, z4⟩ := ItemsAt.item HX.out HBV.out (k := j - 1) (by omega)
            subst hA
            injection hA2 with hA2
            injection hA2 with hA3 hA4
            subst hA3 hA4
            have hltB : ltB (X[j - 1]'(by omega)) X[j] = true := by
              have := rising_get HR.out (i := j - 1) (j := j) (by omega) hjx
              simpa [ltB] using this
            generalize X[j] = y at *
            obtain ⟨z, hz⟩ : ∃ z, X[j - 1]'(by omega) = z := ⟨_, rfl⟩
            rw [hz] at hltB z0 z1 z2 z3 z4
            clear hz
            have HLS := hide (fun W => rless_any z y W)
            rw [hltB] at HLS
            have hjI : (j : Int) < (X.length : Int) := by omega
            have hiI : ((j - 1 : Nat) : Int) < (X.length : Int) := by omega
            have hblw : bl < wr.heap.size := Nat.lt_of_lt_of_le hbb HBV.out.size
            clear hltB
            go_wp2_with fail
            have hnc := near_cells wr
            refine wp_region_near (by kernel_rfl) (by kernel_rfl) ?_
            repeat (go_big_quiet_step ((first | (go_at_call 9; exact near_of (HLS.out _)))))
            refine wpQuiet_nil ?_
            intro _ hw'
            obtain ⟨s1, rfl⟩ := hw'
            go_wp2_with fail
            go_roundw
            case rel => exact ⟨j + 1, by go_num, by omega, by omega, below_step HBV.out s1.is⟩
            case measure => simp [intOf]; omega
          · have hjI : ¬ (j : Int) < (X.length : Int) := by omega
            go_wp2_with fail
            refine (Calls.mono (HAB.out _ (below_step HG1.out HBV.out)) ?_); rintro e v2 ⟨x2, rfl, ho2, hg2⟩
            obtain ⟨Ay, cy, rfl, hry, hcy, hcm2⟩ := ho2.sl
            have HY := hide hry
            have HB2 := hide (below_step HBV.out hg2)
            clear ho2 hry hg2
            go_wp2_with fail
            refine (Calls.mono (requal_any Ax Ay cx cy X X _ (HX.out.below HB2.out) HY.out (by omega) (by omega)) ?_); rintro e v3 ⟨rfl, hg3⟩
            rw [show eqL X X = true from eqL_iff.2 rfl]
            have HB3 := hide (below_step HB2.out hg3)
            clear hg3 HY HB2
            have HL3 := hide (HLN.out v3 (below_step HG1.out HB3.out))
            go_wp2_with fail
            refine (Calls.mono HL3.out ?_); rintro e v4 ⟨rfl, rfl⟩
            go_wp2_with fail
            refine (Calls.mono (awake8_any _) ?_); rintro e v5 ⟨rfl, hg5⟩
            go_wp2_with fail
            go_ret
            exact ⟨rfl, below_step HB.out (below_step HG1.out (below_step HB3.out hg5))⟩
end Go.Proofs.Ytkhagbifbcdpnaa.skipAnyway
