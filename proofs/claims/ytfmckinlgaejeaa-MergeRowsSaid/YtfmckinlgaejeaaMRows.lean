/- merge.Rows: a contract. Conditions: the rows readable, few enough. -/
import Derived.Test.YtfmckinlgaejeaaSs
import Derived.Test.YtfmckinlgaejeaaMrgP
import Derived.Test.YtfmckinlgaejeaaPl
import Derived.Test.YtfmckinlgaejeaaRows5
import Derived.Test.YtfmckinlgaejeaaApart
import Derived.Deep.LoopGhost
namespace Go.Proofs.Ytfmckinlgaejeaa
set_option linter.unusedVariables false
set_option linter.unusedSimpArgs false
open Go.ChangeShapes Go.WideShapes Go.ChangeAt Go.RowKit

def lsR (R : List (Sv It)) : List (List It) := R.map (·.L)
theorem rowI_ls {R : List (Sv It)} {j : Nat} (hj : j < R.length) : rowI (lsR R) j = R[j].L := by
  rw [rowI_lt (by simpa [lsR] using hj)]
  simp [lsR]
theorem lsR_len (R : List (Sv It)) : (lsR R).length = R.length := by simp [lsR]
theorem tail_at {w : World} {b o c : Nat} {z : It} {l : List It} (h : ItemsAt w (some ⟨b, o, none⟩) (z :: l)) (hc : (z :: l).length ≤ c) : ItemsAt w (if c = 1 then some ⟨b, o, none⟩ else some ⟨b, o + 5, none⟩) l := by
  by_cases e : c = 1
  · rw [if_pos e]
    have : l = [] := by
      simp only [List.length_cons] at hc
      exact List.eq_nil_of_length_eq_zero (by omega)
    subst this
    exact RowAt.nil_
  · rw [if_neg e]
    intro hne
    obtain ⟨b', o', e1, hlt, hcl⟩ := h (by simp)
    obtain ⟨rfl, rfl⟩ : b = b' ∧ o = o' := by injection e1 with h; injection h; exact ⟨by assumption, by assumption⟩
    refine ⟨b, o + 5, rfl, hlt, fun k hk j u hu => ?_⟩
    have := hcl (k + 1) (by simp only [List.length_cons]; omega) j u hu
    rw [← this]
    congr 2
    omega
theorem ow_block1 {base : Nat} {w : World} {A : Option Addr} {n c : Nat} {L : List It} (h : Ow base w (.slice A n c) L) (hL : 0 < L.length) :
    ∃ g, A = some ⟨g, 0, none⟩ ∧ base ≤ g ∧ g < w.heap.size ∧ ItemsAt w (some ⟨g, 0, none⟩) L ∧ ∀ o, w.frozen? ⟨g, o, none⟩ = false := by
  obtain ⟨A', c', e', hr, _⟩ := h.sl
  injection e' with e1
  subst e1
  rcases h.og with ⟨_, e⟩ | ⟨g, c2, R, e2, hb, hh, _⟩
  · subst e; simp at hL
  · injection e2 with e3
    subst e3
    exact ⟨g, rfl, hb, (Array.getElem?_eq_some_iff.1 hh).1, hr, fun o => by simp [World.frozen?, hh]⟩
theorem own_put5 {base : Nat} {w : World} {g n c : Nat} {L : List It} (h : Ow base w (.slice (some ⟨g, 0, none⟩) n c) L) {k : Nat} (hk : k < L.length) (x : It) : Ow base (put5 w g (k * 5) x) (.slice (some ⟨g, 0, none⟩) n c) (L.set k x) := by
  obtain ⟨hl, h2⟩ := h
  refine ⟨flat_len It.cells_len _, ?_⟩
  rcases h2 with ⟨e0, _⟩ | ⟨g', cap, cur, ev, hb, hh, hnc, hcm, hcs, htk⟩
  · cases e0
  · injection ev with e1 e2 e3
    injection e1 with e1
    injection e1 with e1
    subst e1
    have hcur : cur = (flat L ++ cur.toList.drop (L.length * 5)).toArray := by
      apply Array.toList_inj.1
      show cur.toList = flat L ++ _
      unfold flat
      rw [← htk, List.take_append_drop]
    rw [hcur] at hh
    have hp := put5_row (x := x) hh hk
    refine .inr ⟨g, cap, (flat (L.set k x) ++ cur.toList.drop (L.length * 5)).toArray, ?_, hb, hp, by rw [List.length_set]; exact hnc, hcm, ?_, ?_⟩
    · rw [List.length_set, e2, e3]
    · have h3 : cur.size = cur.toList.length := by simp
      rw [h3] at hcs
      simp only [List.size_toArray, List.length_append, flat_length, List.length_set, List.length_drop]
      omega
    · rw [List.length_set]
      show (flat (L.set k x) ++ _).take (L.length * 5) = flat (L.set k x)
      rw [List.take_left' (by rw [flat_length, List.length_set])]
theorem addO_at {O : List It} {q : Nat} (z : It) (hO : O.length = q + 1) : addO O z = if sameB (O[q]'(by omega)) z then (if winsB z (O[q]'(by omega)) then O.set q z else O) else O ++ [z] := by
  have h : O.getLast? = some (O[q]'(by omega)) := by
    rw [List.getLast?_eq_getElem?, show O.length - 1 = q by omega, List.getElem?_eq_getElem (by omega)]
  unfold addO
  rw [h]
  show (if sameB (O[q]'(by omega)) z = true then (if winsB z (O[q]'(by omega)) = true then O.set (O.length - 1) z else O) else O ++ [z]) = _
  rw [show O.length - 1 = q by omega]
theorem addO_len (O : List It) (z : It) : (addO O z).length ≤ O.length + 1 := by
  unfold addO
  split
  · simp
  · split
    · split
      · rw [List.length_set]; omega
      · omega
    · simp
/-- Where the least head stands, as the program tells it. -/
def atV : Option Nat → Int
  | none => -1
  | some a => a
/-- What merge.Rows keeps. -/
structure MrSt (w wr : World) (n S : Nat) (T : List It) (v u : Value) (m : Nat) (R : List (Sv It)) (O : List It) : Prop where
  len : R.length = n
  tot : lenR (lsR R) = m
  res : mrgG m (lsR R) O = T
  sz : O.length + m ≤ S
  rd : ∀ r ∈ R, ItemsAt w r.A r.L ∧ r.L.length ≤ r.c ∧ r.c ≤ maxLen
  os : OwS w.heap.size wr u R
  ow : Ow w.heap.size wr v O
  ap : ∀ g, v.ownBlock = some g → u.ownBlock ≠ some g
  low : Below w.heap.size w wr
set_option maxRecDepth 100000 in
set_option maxHeartbeats 6400000 in
theorem mrows_new (A : Option Addr) (c : Nat) (R : List (Sv It)) (w : World) (hR : RowAt svC 1 w A R) (hrd : ∀ r ∈ R, ItemsAt w r.A r.L ∧ r.L.length ≤ r.c ∧ r.c ≤ maxLen) (hn : R.length ≤ 1000000) (hs : lenR (lsR R) ≤ 100000000) :
    Calls Try.prog 13 #[.slice A R.length c] w fun e w' => ∃ v, e = .returned v ∧ (Sl w' v (mrgG (lenR (lsR R)) (lsR R) []) ∧ ∀ a n c, v = .slice (some a) n c → w.heap.size ≤ a.block) ∧ Below w.heap.size w w' := by
  have HCL := hide (clone_ss A c R w hR hn)
  obtain ⟨S, hS⟩ : ∃ S, lenR (lsR R) = S := ⟨_, rfl⟩
  obtain ⟨T, hT⟩ : ∃ T, mrgG S (lsR R) [] = T := ⟨_, rfl⟩
  rw [hS, hT]
  have HT := hide hT
  have HS := hide hS
  have HRD := hide hrd
  obtain ⟨n, hnn⟩ : ∃ n, R.length = n := ⟨_, rfl⟩
  have HNN := hide hnn
  rw [hS] at hs
  clear hR hT hS hrd hnn
  go_enter Try.func13, Try.ntmps13
  go_wp2_with fail
  refine (Calls.mono HCL.out ?_); rintro e w1 ⟨u, rfl, ho, hb⟩
  have HST : Hid (MrSt w w1 n S T (.slice none 0 0) u S R []) := hide ⟨HNN.out, HS.out, HT.out, by simp, HRD.out, ho, Ow.nil_ _ _, fun g hg => (by simp [Value.ownBlock] at hg), hb⟩
  obtain ⟨A4, c4, rfl, _, hlow4, hc4, hcm4⟩ := OwnL.row (cells := svC) (fun _ => rfl) ho
  rw [HNN.out] at hn HST hc4
  rw [HNN.out]
  have hnI : (n : Int) ≤ 1000000 := by omega
  unfold maxLen at hcm4
  clear ho hb HCL HT HS HRD HNN hlow4
  go_wp2_with fail
  go_loopg [3] S (fun m v wr => ∃ (R : List (Sv It)) (O : List It), MrSt w wr n S T v (.slice A4 n c4) m R O)
  case atStart => exact ⟨R, [], HST.out⟩
  case round =>
    clear HST
    obtain ⟨R1, O, hst⟩ := hrel
    have HST := hide hst
    have hr4 : RowAt svC 1 wr A4 R1 := by
      obtain ⟨A5, c5, e, hr, _⟩ := OwnL.row (cells := svC) (fun _ => rfl) hst.os
      injection e with e1
      subst e1
      exact hr
    have hlen := hst.len
    obtain ⟨wh, rfl⟩ : ∃ wh, wh = wr := ⟨_, rfl⟩
    have HR4 := hide hr4
    clear hst hr4
    go_wp2_with fail
    go_loopw [5, 14] (fun a i wq => ∃ j : Nat, i = .int .i64 j ∧ j ≤ n ∧ a = .int .i64 (atV (scan (lsR R1) j)) ∧ Below wh.heap.size wh wq) (fun _ i _ => n - (intOf i).toNat)
    case atStart => exact ⟨0, rfl, by omega, rfl, Below.refl _ _⟩
    case round =>
      obtain ⟨j, rfl, hj, rfl, hbq⟩ := hrel
      obtain ⟨wq, rfl⟩ : ∃ wq, wq = wr := ⟨_, rfl⟩
      by_cases hjn : j < n
      · have hjl : j < R1.length := by omega
        obtain ⟨b4, o4, hA4, hb4, hcr⟩ := HR4.out.at_ hjl
        have hcj : wq.cell? ⟨b4, o4 + j, none⟩ = some (R1[j]).val := (hbq.cell (p := ⟨b4, _, none⟩) hb4).trans (by simpa using hcr j hjl 0 _ rfl)
        have hrj := HST.out.rd R1[j] (List.getElem_mem _)
        have hri := rowI_ls hjl
        have hjI : (j : Int) < (n : Int) := by omega
        have hb4q : b4 < wq.heap.size := Nat.lt_of_lt_of_le hb4 hbq.size
        have HBQ := hide hbq
        subst hA4
        generalize R1[j] = r at *
        obtain ⟨rA, rc, rL⟩ := r
        obtain ⟨hrr, hrl, hrc⟩ := hrj
        simp only at hrr hrl hrc hri
        unfold maxLen at hrc
        cases rL with
        | nil =>
          have hsc : Hid (scan (lsR R1) (j + 1) = scan (lsR R1) j) := hide (by rw [scan, hri]; rfl)
          replace hcj : wq.cell? ⟨b4, o4 + j, none⟩ = some (.slice rA 0 rc) := hcj
          obtain ⟨av, hav⟩ : ∃ av, atV (scan (lsR R1) j) = av := ⟨_, rfl⟩
          have HSC : Hid (atV (scan (lsR R1) (j + 1)) = av) := hide (by rw [hsc.out, hav])
          rw [hav]
          clear hav hri hcr hrr hrl hrc hbq hsc
          go_wp2_with fail
          refine wp_region_near (by kernel_rfl) (by kernel_rfl) ?_
          repeat (go_big_quiet_step (fail))
          refine wpQuiet_nil ?_
          intro _ hw'
          obtain ⟨s1, rfl⟩ := hw'
          go_wp2_with fail
          go_roundw
          case rel => exact ⟨j + 1, by go_num, by omega, by rw [HSC.out], below_step HBQ.out s1.is⟩
          case measure => (simp [intOf] <;> omega)
        | cons y l =>
          obtain ⟨by_, oy, rfl, hby, y0, y1, y2, y3, y4⟩ := ItemsAt.item hrr (below_step HST.out.low hbq) (k := 0) (by simp)
          simp only [Nat.zero_mul, Nat.add_zero, List.getElem_cons_zero] at y0 y1 y2 y3 y4
          have hbyw : by_ < wq.heap.size := Nat.lt_of_lt_of_le hby (below_step HST.out.low hbq).size
          obtain ⟨rl, hrl2⟩ : ∃ rl : Nat, (y :: l).length = rl := ⟨_, rfl⟩
          have hrl0 : 0 < rl := by rw [← hrl2]; simp
          have hrl0I : (0 : Int) < (rl : Int) := by omega
          replace hcj : wq.cell? ⟨b4, o4 + j, none⟩ = some (.slice (some ⟨by_, oy, none⟩) rl rc) := by rw [← hrl2]; exact hcj
          rw [hrl2] at hrl
          have hhd : (rowI (lsR R1) j).head? = some y := by rw [hri]; rfl
          cases hsj : scan (lsR R1) j with
          | none =>
            have HSC : Hid (atV (scan (lsR R1) (j + 1)) = (j : Int)) := hide (by rw [scan, hhd, hsj]; rfl)
            rw [show atV none = -1 from rfl]
            clear hsj hhd hri hcr hrr hrl2 hbq
            go_wp2_with fail
            refine wp_region_near (by kernel_rfl) (by kernel_rfl) ?_
            repeat (go_big_quiet_step (fail))
            refine wpQuiet_nil ?_
            intro _ hw'
            obtain ⟨s1, rfl⟩ := hw'
            go_wp2_with fail
            go_roundw
            case rel => exact ⟨j + 1, by go_num, by omega, by rw [HSC.out], below_step HBQ.out s1.is⟩
            case measure => (simp [intOf] <;> omega)
          | some a =>
            obtain ⟨haj, ⟨la, hla⟩, _⟩ := scan_some hsj
            have hal : a < R1.length := by omega
            have hca : wq.cell? ⟨b4, o4 + a, none⟩ = some (R1[a]).val := (hbq.cell (p := ⟨b4, _, none⟩) hb4).trans (by simpa using hcr a hal 0 _ rfl)
            have hra := HST.out.rd R1[a] (List.getElem_mem _)
            have hria := rowI_ls hal
            rw [hla] at hria
            generalize R1[a] = ra at *
            obtain ⟨aA, ac, aL⟩ := ra
            simp only at hra hria
            subst hria
            obtain ⟨har, hal2, hac⟩ := hra
            obtain ⟨bz, oz, rfl, hbz, z0, z1, z2, z3, z4⟩ := ItemsAt.item har (below_step HST.out.low hbq) (k := 0) (by simp)
            simp only [Nat.zero_mul, Nat.add_zero, List.getElem_cons_zero] at z0 z1 z2 z3 z4
            have hbzw : bz < wq.heap.size := Nat.lt_of_lt_of_le hbz (below_step HST.out.low hbq).size
            obtain ⟨al, hall⟩ : ∃ al : Nat, (hd (lsR R1) a :: la).length = al := ⟨_, rfl⟩
            have hal0 : 0 < al := by rw [← hall]; simp
            have hal0I : (0 : Int) < (al : Int) := by omega
            replace hca : wq.cell? ⟨b4, o4 + a, none⟩ = some (.slice (some ⟨bz, oz, none⟩) al ac) := by rw [← hall]; exact hca
            have haI : (a : Int) < (n : Int) := by omega
            have ha0 : decide ((a : Int) < 0) = false := decide_eq_false (by omega)
            have ha00 : (0 : Int) ≤ (a : Int) := by omega
            have HLS := hide (fun V => pless_any y (hd (lsR R1) a) V)
            have hstep : scan (lsR R1) (j + 1) = if ltB y (hd (lsR R1) a) then some j else some a := by rw [scan, hhd, hsj]
            rw [show atV (some a) = (a : Int) from rfl]
            unfold maxLen at hac
            have rca := fun s : Near wq => s.cell hca hb4q
            cases hlt : ltB y (hd (lsR R1) a) with
            | true =>
              have HSC : Hid (atV (scan (lsR R1) (j + 1)) = (j : Int)) := hide (by rw [hstep, hlt]; rfl)
              rw [hlt] at HLS
              generalize hd (lsR R1) a = z at *
              clear hsj hhd hri hcr hrr hrl2 hbq hstep hlt hla hall har
              have ry0 := fun s : Near wq => s.cell y0 hbyw
              have ry1 := fun s : Near wq => s.cell y1 hbyw
              have ry2 := fun s : Near wq => s.cell y2 hbyw
              have ry3 := fun s : Near wq => s.cell y3 hbyw
              have ry4 := fun s : Near wq => s.cell y4 hbyw
              have rz0 := fun s : Near wq => s.cell z0 hbzw
              have rz1 := fun s : Near wq => s.cell z1 hbzw
              have rz2 := fun s : Near wq => s.cell z2 hbzw
              have rz3 := fun s : Near wq => s.cell z3 hbzw
              have rz4 := fun s : Near wq => s.cell z4 hbzw
              go_wp2_with fail
              refine wp_region_near (by kernel_rfl) (by kernel_rfl) ?_
              repeat (go_big_quiet_step ((first | (go_at_call 25; exact near_of (HLS.out _)))))
              refine wpQuiet_nil ?_
              intro _ hw'
              obtain ⟨s1, rfl⟩ := hw'
              clear ry0 ry1 ry2 ry3 ry4
              clear rz0 rz1 rz2 rz3 rz4
              clear rca
              go_wp2_with fail
              go_roundw
              case rel => exact ⟨j + 1, by go_num, by omega, by rw [HSC.out], below_step HBQ.out s1.is⟩
              case measure => (simp [intOf] <;> omega)
            | false =>
              have HSC : Hid (atV (scan (lsR R1) (j + 1)) = (a : Int)) := hide (by rw [hstep, hlt]; rfl)
              rw [hlt] at HLS
              generalize hd (lsR R1) a = z at *
              clear hsj hhd hri hcr hrr hrl2 hbq hstep hlt hla hall har
              have ry0 := fun s : Near wq => s.cell y0 hbyw
              have ry1 := fun s : Near wq => s.cell y1 hbyw
              have ry2 := fun s : Near wq => s.cell y2 hbyw
              have ry3 := fun s : Near wq => s.cell y3 hbyw
              have ry4 := fun s : Near wq => s.cell y4 hbyw
              have rz0 := fun s : Near wq => s.cell z0 hbzw
              have rz1 := fun s : Near wq => s.cell z1 hbzw
              have rz2 := fun s : Near wq => s.cell z2 hbzw
              have rz3 := fun s : Near wq => s.cell z3 hbzw
              have rz4 := fun s : Near wq => s.cell z4 hbzw
              go_wp2_with fail
              refine wp_region_near (by kernel_rfl) (by kernel_rfl) ?_
              repeat (go_big_quiet_step ((first | (go_at_call 25; exact near_of (HLS.out _)))))
              refine wpQuiet_nil ?_
              intro _ hw'
              obtain ⟨s1, rfl⟩ := hw'
              clear ry0 ry1 ry2 ry3 ry4
              clear rz0 rz1 rz2 rz3 rz4
              clear rca
              go_wp2_with fail
              go_roundw
              case rel => exact ⟨j + 1, by go_num, by omega, by rw [HSC.out], below_step HBQ.out s1.is⟩
              case measure => (simp [intOf] <;> omega)
      · obtain rfl : j = n := by omega
        have hjI : ¬ (j : Int) < (j : Int) := by omega
        have HBQ := hide hbq
        have hls : (lsR R1).length = j := by rw [lsR_len, hlen]
        cases hsc : scan (lsR R1) j with
        | none =>
          have hTO : O = T := by
            have hres := HST.out.res
            cases gk with
            | zero => exact hres
            | succ m => rw [mrgG, hls, hsc] at hres; exact hres
          subst hTO
          obtain ⟨Av, cv, rfl, hrv, hlv, hcv, hcvm⟩ := OwnL.row It.cells_len (HST.out.ow.below hbq)
          have HOW := hide (Sl.mk_ hrv (Nat.le_refl _) (Nat.le_trans hcv hcvm))
          have HLV : Hid (∀ a n c, Value.slice Av O.length O.length = .slice (some a) n c → w.heap.size ≤ a.block) := hide (fun a n c e => by injection e with e1; exact (hlv a.block a.off a.spot (by rw [e1])).1)
          have HLW := hide (below_step HST.out.low hbq)
          rw [show atV none = -1 from rfl]
          clear hbq hsc hls hlen HST HR4 hrv hlv
          go_wp2_with fail
          refine (Calls.mono (clip_any Av O.length cv _ hcv hcvm) ?_); rintro e w5 ⟨rfl, rfl⟩
          go_wp2_with fail
          go_ret
          exact ⟨_, rfl, ⟨HOW.out, HLV.out⟩, HLW.out⟩
        | some a =>
          obtain ⟨haj, ⟨la, hla⟩, _⟩ := scan_some hsc
          have hal : a < R1.length := by omega
          obtain ⟨g, rfl, hgb, hgl, hgc, hgf⟩ := own_at1 (OwnL.below HST.out.os hbq) (by omega)
          have hca := hgc a hal
          have hfa := hgf a
          have hra := HST.out.rd R1[a] (List.getElem_mem _)
          have hria := rowI_ls hal
          rw [hla] at hria
          obtain ⟨ra, hrae⟩ : ∃ ra, R1[a] = ra := ⟨_, rfl⟩
          rw [hrae] at hca hra hria
          have HRA := hide hrae
          clear hrae hgc hgf
          obtain ⟨aA, ac, aL⟩ := ra
          simp only at hra hria
          subst hria
          obtain ⟨har, hal2, hac⟩ := hra
          have har0 := har
          obtain ⟨bz, oz, rfl, hbz, z0, z1, z2, z3, z4⟩ := ItemsAt.item har (below_step HST.out.low hbq) (k := 0) (by simp)
          simp only [Nat.zero_mul, Nat.add_zero, List.getElem_cons_zero] at z0 z1 z2 z3 z4
          have hbzw : bz < wq.heap.size := Nat.lt_of_lt_of_le hbz (below_step HST.out.low hbq).size
          obtain ⟨al, hall⟩ : ∃ al : Nat, (hd (lsR R1) a :: la).length = al := ⟨_, rfl⟩
          have hal0 : 0 < al := by rw [← hall]; simp
          have hal0I : (0 : Int) < (al : Int) := by omega
          replace hca : wq.cell? ⟨g, a, none⟩ = some (.slice (some ⟨bz, oz, none⟩) al ac) := by rw [← hall]; exact hca
          rw [hall] at hal2
          have haI : (a : Int) < (j : Int) := by omega
          have ha0 : decide ((a : Int) < 0) = false := decide_eq_false (by omega)
          have ha00 : (0 : Int) ≤ (a : Int) := by omega
          have ha01 : ¬ (a : Int) < 0 := by omega
          rw [show atV (some a) = (a : Int) from rfl]
          unfold maxLen at hac
          have hacI : (1 : Int) ≤ (al : Int) := by omega
          have HLA := hide hall
          have HAR := hide har0
          obtain ⟨Av, cv, rfl, hrv, hlowv, hcv, hcvm⟩ := OwnL.row It.cells_len (HST.out.ow.below hbq)
          have hset : lsR (R1.set a ⟨if ac = 1 then some ⟨bz, oz, none⟩ else some ⟨bz, oz + 5, none⟩, ac - 1, la⟩) = (lsR R1).set a la := by unfold lsR; rw [List.map_set]
          have htot := lenR_set (lsR R1) a (hd (lsR R1) a) la hla
          rw [HST.out.tot, ← hset] at htot
          obtain ⟨m1, hm1⟩ : ∃ m1, gk = m1 + 1 := ⟨gk - 1, by omega⟩
          have hres := HST.out.res
          rw [hm1, mrgG, hls, hsc] at hres
          simp only at hres
          rw [show (rowI (lsR R1) a).drop 1 = la by rw [hla]; rfl, ← hset] at hres
          have HRES := hide hres
          have HTOT : Hid (lenR (lsR (R1.set a ⟨if ac = 1 then some ⟨bz, oz, none⟩ else some ⟨bz, oz + 5, none⟩, ac - 1, la⟩)) = m1) := hide (by omega)
          have hrd : ∀ r ∈ R1.set a ⟨if ac = 1 then some ⟨bz, oz, none⟩ else some ⟨bz, oz + 5, none⟩, ac - 1, la⟩, ItemsAt w r.A r.L ∧ r.L.length ≤ r.c ∧ r.c ≤ maxLen := by
            intro r hr
            rcases List.mem_or_eq_of_mem_set hr with h | rfl
            · exact HST.out.rd r h
            · refine ⟨tail_at har0 (by rw [hall]; exact hal2), ?_, by unfold maxLen; show ac - 1 ≤ _; omega⟩
              show la.length ≤ ac - 1
              simp only [List.length_cons] at hall
              omega
          have HRD := hide hrd
          have hla2 : la.length = al - 1 := by simp only [List.length_cons] at hall; omega
          have hos := own_set1 (val := fun s : Sv It => s.val) (OwnL.below HST.out.os hbq) hal ⟨if ac = 1 then some ⟨bz, oz, none⟩ else some ⟨bz, oz + 5, none⟩, ac - 1, la⟩
          have hos2 : OwS w.heap.size (wq.setCell ⟨g, a, none⟩ (.slice (if ac = 1 then some ⟨bz, oz, none⟩ else some ⟨bz, oz + 5, none⟩) (al - 1) (ac - 1))) (.slice (some ⟨g, 0, none⟩) j c4) (R1.set a ⟨if ac = 1 then some ⟨bz, oz, none⟩ else some ⟨bz, oz + 5, none⟩, ac - 1, la⟩) := by
            rw [← hla2]
            exact hos
          have hnv : (Value.slice Av O.length cv).ownBlock ≠ some g := fun e => HST.out.ap g e rfl
          have how2 := OwnL.setFar (HST.out.ow.below hbq) hnv (o := a) (.slice (if ac = 1 then some ⟨bz, oz, none⟩ else some ⟨bz, oz + 5, none⟩) (al - 1) (ac - 1))
          have hlow2 := (below_step HST.out.low hbq).setCell (p := ⟨g, a, none⟩) hgb (.slice (if ac = 1 then some ⟨bz, oz, none⟩ else some ⟨bz, oz + 5, none⟩) (al - 1) (ac - 1))
          have HLEN : Hid ((R1.set a ⟨if ac = 1 then some ⟨bz, oz, none⟩ else some ⟨bz, oz + 5, none⟩, ac - 1, la⟩ : List (Sv It)).length = j) := hide (by rw [List.length_set]; exact hlen)
          have hsz := HST.out.sz
          generalize hd (lsR R1) a = z at *
          generalize R1.set a ⟨if ac = 1 then some ⟨bz, oz, none⟩ else some ⟨bz, oz + 5, none⟩, ac - 1, la⟩ = R2 at *
          obtain ⟨wx, hwx⟩ : ∃ wx, (wq.setCell ⟨g, a, none⟩ (.slice (if ac = 1 then some ⟨bz, oz, none⟩ else some ⟨bz, oz + 5, none⟩) (al - 1) (ac - 1))).alloc (.cells #[.int .i64 z.s, .int .i64 z.k, .int .u64 z.t, .int .u64 z.v, .int .i64 z.x] 28) = wx := ⟨_, rfl⟩
          have HOS2 : Hid (OwS w.heap.size wx (.slice (some ⟨g, 0, none⟩) j c4) R2) := hide (by rw [← hwx]; exact OwnL.alloc hos2 _)
          have HOW2 : Hid (Ow w.heap.size wx (.slice Av O.length cv) O) := hide (by rw [← hwx]; exact OwnL.alloc how2 _)
          have HLW2 : Hid (Below w.heap.size w wx) := hide (by rw [← hwx]; exact hlow2.alloc (by simp; have := hlow2.size; simp at this; omega) _)
          have HBX : Hid (wx.heap[wq.heap.size]? = some (.cells z.cells.toArray 28 (0, 0))) := hide (by
            rw [← hwx]
            have := heap_alloc_new (wq.setCell ⟨g, a, none⟩ (.slice (if ac = 1 then some ⟨bz, oz, none⟩ else some ⟨bz, oz + 5, none⟩) (al - 1) (ac - 1))) (.cells z.cells.toArray 28)
            rw [show (wq.setCell ⟨g, a, none⟩ (.slice (if ac = 1 then some ⟨bz, oz, none⟩ else some ⟨bz, oz + 5, none⟩) (al - 1) (ac - 1))).heap.size = wq.heap.size by simp] at this
            exact this)
          have HNV := hide hnv
          have HAP : Hid (ApartV (.slice Av O.length cv) (.slice (some ⟨g, 0, none⟩) j c4)) := hide HST.out.ap
          have HSZ : Hid (O.length + (m1 + 1) ≤ S) := hide (by omega)
          have HWX := hide hwx
          have HNG : Hid ((Value.slice Av O.length cv).ownBlock ≠ some wq.heap.size ∧ g ≠ wq.heap.size ∧ w.heap.size ≤ wq.heap.size) := hide ⟨fun e => by have := (OwnL.lt (HST.out.ow.below hbq) _ e).2; omega, by omega, by omega⟩
          clear hset htot hres hrd hla2 hos hos2 hnv how2 hlow2 hsc hla hall har har0 hwx hlowv hrv hlen hls HR4 HRA HBQ HLA HAR
          go_upto_region 14 with fail
          rw [HWX.out]
          clear HWX z0 z1 z2 z3 z4 hca hfa
          have hgm : m1 < gk := by omega
          generalize wq.heap.size = gx at *
          generalize (if ac = 1 then some (⟨bz, oz, none⟩ : Addr) else some ⟨bz, oz + 5, none⟩) = tA at *
          obtain ⟨lo, hlo⟩ : ∃ lo, O.length = lo := ⟨_, rfl⟩
          have HLO := hide hlo
          rw [hlo] at HOW2 HAP HNV HNG
          try rw [hlo]
          clear hlo
          have lgx : gx < wx.heap.size := (Array.getElem?_eq_some_iff.1 HBX.out).1
          have HBX2 := HBX
          cases lo with
          | zero =>
            have hO2 : O = [] := List.eq_nil_of_length_eq_zero HLO.out
            have hadd : addO O z = O ++ [z] := by rw [hO2]; rfl
            have HADD := hide hadd
            clear hadd hO2
            go_wp2_with fail
            refine wp_region_near (by kernel_rfl) (by kernel_rfl) ?_
            repeat (go_big_quiet_step (fail))
            refine wpQuiet_nil ?_
            intro _ hw'
            obtain ⟨s1, rfl⟩ := hw'
            have HOS3 := hide (OwnL.below HOS2.out s1.is)
            have HOW3 := hide (Ow.below HOW2.out s1.is)
            have HLW3 := hide (below_step HLW2.out s1.is)
            have HBX3 := hide ((s1.is.block gx lgx).trans HBX2.out)
            replace lgx := Nat.lt_of_lt_of_le lgx s1.is.size
            obtain ⟨v3, hv3⟩ : ∃ v, s1.at_ = v := ⟨_, rfl⟩
            rw [hv3] at HOS3 HOW3 HLW3 HBX3 lgx
            rw [hv3]
            clear hv3 s1
            obtain ⟨x0, x1, x2, x3, x4⟩ := box_item HBX3.out
            have bN : O.length ≤ 274877906944 := by have := HSZ.out; omega
            go_wp2_with (at_builtin; refine wpList_append_el rfl (.tmp 73) (.tmp 75) 22 28 _ 5 40 rfl Try.underlying22 Try.infoItem rfl (by decide) It.cells_len It.cells_one (by decide) w.heap.size w.heap.size w v3 _ _ O z rfl _ rfl rfl rfl HOW3.out HLW3.out (Nat.le_refl _) HLW3.out.size bN ?_; intro v5 w5 ho5 hb5 hg5 hmv5; have HO5 := hide ho5; have HB5 := hide hb5; have HOS5 := hide (OwnL.kept HOS3.out hg5 (.inr (fun e => HNV.out e.symm))); have HAP5 := hide (ApartV.moved (u := .slice (some ⟨g, 0, none⟩) j c4) HAP.out (fun g' hg' => (OwnL.lt HOS3.out g' hg').2) hmv5); clear ho5 hb5 hg5 hmv5 x0 x1 x2 x3 x4)
            go_roundg m1
            case measure => exact hgm
            case rel => exact ⟨R2, O ++ [z], HLEN.out, HTOT.out, by rw [← HADD.out]; exact HRES.out, by rw [List.length_append, List.length_singleton]; have := HSZ.out; omega, HRD.out, HOS5.out, HO5.out, HAP5.out, HB5.out⟩
          | succ q =>
            obtain ⟨go_, rfl, hgb_, hgl_, hit, hfz⟩ := ow_block1 HOW2.out (by have := HLO.out; omega)
            have hqO : q < O.length := by have := HLO.out; omega
            have hadd := addO_at z HLO.out
            obtain ⟨by_, oy, hye, hby, y0, y1, y2, y3, y4⟩ := ItemsAt.item hit (Below.refl _ _) hqO
            obtain ⟨rfl, rfl⟩ : go_ = by_ ∧ 0 = oy := by injection hye with h; injection h; exact ⟨by assumption, by assumption⟩
            simp only [Nat.zero_add] at y0 y1 y2 y3 y4
            have hq0 : ((q : Int) + 1 == 0) = false := beq_eq_false_iff_ne.2 (by omega)
            have hqI : (0 : Int) ≤ (q : Int) := by omega
            have hqS : (q : Int) ≤ 1099511627776 := by have := HSZ.out; have := HLO.out; omega
            have hne : go_ ≠ gx := fun e => HNG.out.1 (by rw [← e]; rfl)
            have hne' : gx ≠ go_ := fun e => hne e.symm
            have HFZ := hide hfz
            have HSM := hide (fun V => psame_any (O[q]'hqO) z V)
            have HWN := hide (fun V => pwins_any z (O[q]'hqO) V)
            generalize O[q]'hqO = y at *
            clear hye hit hfz hby
            obtain ⟨x0, x1, x2, x3, x4⟩ := box_item HBX2.out
            have ry0 := fun s : Near wx => s.cell y0 hgl_
            have ry1 := fun s : Near wx => s.cell y1 hgl_
            have ry2 := fun s : Near wx => s.cell y2 hgl_
            have ry3 := fun s : Near wx => s.cell y3 hgl_
            have ry4 := fun s : Near wx => s.cell y4 hgl_
            have rx0 := fun s : Near wx => s.cell x0 lgx
            have rx1 := fun s : Near wx => s.cell x1 lgx
            have rx2 := fun s : Near wx => s.cell x2 lgx
            have rx3 := fun s : Near wx => s.cell x3 lgx
            have rx4 := fun s : Near wx => s.cell x4 lgx
            cases hsm : sameB y z with
            | false =>
              have HADD : Hid (addO O z = O ++ [z]) := hide (by rw [hadd, hsm]; rfl)
              rw [hsm] at HSM
              clear hadd hsm HWN
              go_wp2_with fail
              refine wp_region_near (by kernel_rfl) (by kernel_rfl) ?_
              repeat (go_big_quiet_step ((first | (go_at_call 28; exact near_of (HSM.out _)))))
              refine wpQuiet_nil ?_
              intro _ hw'
              obtain ⟨s1, rfl⟩ := hw'
              clear rx0 ry0 x0 y0 rx1 ry1 x1 y1 rx2 ry2 x2 y2 rx3 ry3 x3 y3 rx4 ry4 x4 y4
              have HOS3 := hide (OwnL.below HOS2.out s1.is)
              have HOW3 := hide (Ow.below HOW2.out s1.is)
              have HLW3 := hide (below_step HLW2.out s1.is)
              have HBX3 := hide ((s1.is.block gx lgx).trans HBX2.out)
              replace lgx := Nat.lt_of_lt_of_le lgx s1.is.size
              obtain ⟨v3, hv3⟩ : ∃ v, s1.at_ = v := ⟨_, rfl⟩
              rw [hv3] at HOS3 HOW3 HLW3 HBX3 lgx
              rw [hv3]
              clear hv3 s1
              obtain ⟨x0, x1, x2, x3, x4⟩ := box_item HBX3.out
              have bN : O.length ≤ 274877906944 := by have := HSZ.out; omega
              go_wp2_with (at_builtin; refine wpList_append_el rfl (.tmp 73) (.tmp 75) 22 28 _ 5 40 rfl Try.underlying22 Try.infoItem rfl (by decide) It.cells_len It.cells_one (by decide) w.heap.size w.heap.size w v3 _ _ O z rfl _ rfl rfl rfl HOW3.out HLW3.out (Nat.le_refl _) HLW3.out.size bN ?_; intro v5 w5 ho5 hb5 hg5 hmv5; have HO5 := hide ho5; have HB5 := hide hb5; have HOS5 := hide (OwnL.kept HOS3.out hg5 (.inr (fun e => HNV.out e.symm))); have HAP5 := hide (ApartV.moved (u := .slice (some ⟨g, 0, none⟩) j c4) HAP.out (fun g' hg' => (OwnL.lt HOS3.out g' hg').2) hmv5); clear ho5 hb5 hg5 hmv5 x0 x1 x2 x3 x4)
              go_roundg m1
              case measure => exact hgm
              case rel => exact ⟨R2, O ++ [z], HLEN.out, HTOT.out, by rw [← HADD.out]; exact HRES.out, by rw [List.length_append, List.length_singleton]; have := HSZ.out; omega, HRD.out, HOS5.out, HO5.out, HAP5.out, HB5.out⟩
            | true =>
              rw [hsm] at HSM
              go_wp2_with fail
              refine wp_region_near (by kernel_rfl) (by kernel_rfl) ?_
              repeat (go_big_quiet_step ((first | (go_at_call 28; exact near_of (HSM.out _)))))
              refine wpQuiet_nil ?_
              intro _ hw'
              obtain ⟨s1, rfl⟩ := hw'
              clear rx0 ry0 rx1 ry1 rx2 ry2 rx3 ry3 rx4 ry4
              replace x0 := s1.cell x0 lgx
              replace y0 := s1.cell y0 hgl_
              replace x1 := s1.cell x1 lgx
              replace y1 := s1.cell y1 hgl_
              replace x2 := s1.cell x2 lgx
              replace y2 := s1.cell y2 hgl_
              replace x3 := s1.cell x3 lgx
              replace y3 := s1.cell y3 hgl_
              replace x4 := s1.cell x4 lgx
              replace y4 := s1.cell y4 hgl_
              have HFZ3 : Hid (∀ o, s1.at_.frozen? ⟨go_, o, none⟩ = false) := hide (fun o => (s1.is.frozen (p := ⟨go_, o, none⟩) hgl_).trans (HFZ.out o))
              replace hgl_ := Nat.lt_of_lt_of_le hgl_ s1.is.size
              have HOS3 := hide (OwnL.below HOS2.out s1.is)
              have HOW3 := hide (Ow.below HOW2.out s1.is)
              have HLW3 := hide (below_step HLW2.out s1.is)
              have HBX3 := hide ((s1.is.block gx lgx).trans HBX2.out)
              replace lgx := Nat.lt_of_lt_of_le lgx s1.is.size
              obtain ⟨v3, hv3⟩ : ∃ v, s1.at_ = v := ⟨_, rfl⟩
              rw [hv3] at HOS3 HOW3 HLW3 HBX3 lgx hgl_ HFZ3 x0 y0 x1 y1 x2 y2 x3 y3 x4 y4
              rw [hv3]
              clear hv3 s1 HFZ HSM
              have ry0 := fun s : Near v3 => s.cell y0 hgl_
              have ry1 := fun s : Near v3 => s.cell y1 hgl_
              have ry2 := fun s : Near v3 => s.cell y2 hgl_
              have ry3 := fun s : Near v3 => s.cell y3 hgl_
              have ry4 := fun s : Near v3 => s.cell y4 hgl_
              have rx0 := fun s : Near v3 => s.cell x0 lgx
              have rx1 := fun s : Near v3 => s.cell x1 lgx
              have rx2 := fun s : Near v3 => s.cell x2 lgx
              have rx3 := fun s : Near v3 => s.cell x3 lgx
              have rx4 := fun s : Near v3 => s.cell x4 lgx
              cases hwn : winsB z y with
              | false =>
                have HADD : Hid (addO O z = O) := hide (by rw [hadd, hsm, hwn]; rfl)
                rw [hwn] at HWN
                clear hadd hsm hwn
                go_wp2_with fail
                refine wp_region_near (by kernel_rfl) (by kernel_rfl) ?_
                repeat (go_big_quiet_step ((first | (go_at_call 29; exact near_of (HWN.out _)))))
                refine wpQuiet_nil ?_
                intro _ hw'
                obtain ⟨s2, rfl⟩ := hw'
                clear rx0 ry0 x0 y0 rx1 ry1 x1 y1 rx2 ry2 x2 y2 rx3 ry3 x3 y3 rx4 ry4 x4 y4
                go_wp2_with fail
                go_roundg m1
                case measure => exact hgm
                case rel => exact ⟨R2, O, HLEN.out, HTOT.out, by rw [← HADD.out]; exact HRES.out, by have := HSZ.out; omega, HRD.out, OwnL.below HOS3.out s2.is, Ow.below HOW3.out s2.is, HAP.out, below_step HLW3.out s2.is⟩
              | true =>
                have HADD : Hid (addO O z = O.set q z) := hide (by rw [hadd, hsm, hwn]; rfl)
                rw [hwn] at HWN
                clear hadd hsm hwn
                go_wp2_with fail
                refine wp_region_near (by kernel_rfl) (by kernel_rfl) ?_
                repeat (go_big_quiet_step ((first | (go_at_call 29; exact near_of (HWN.out _)))))
                refine wpQuiet_nil ?_
                intro _ hw'
                obtain ⟨s2, rfl⟩ := hw'
                clear rx0 ry0 rx1 ry1 rx2 ry2 rx3 ry3 rx4 ry4
                replace x0 := s2.cell x0 lgx
                replace y0 := s2.cell y0 hgl_
                replace x1 := s2.cell x1 lgx
                replace y1 := s2.cell y1 hgl_
                replace x2 := s2.cell x2 lgx
                replace y2 := s2.cell y2 hgl_
                replace x3 := s2.cell x3 lgx
                replace y3 := s2.cell y3 hgl_
                replace x4 := s2.cell x4 lgx
                replace y4 := s2.cell y4 hgl_
                have hfz := fun o => (s2.is.frozen (p := ⟨go_, o, none⟩) hgl_).trans (HFZ3.out o)
                replace hgl_ := Nat.lt_of_lt_of_le hgl_ s2.is.size
                have HOS4 := hide (OwnL.below HOS3.out s2.is)
                have HOW4 := hide (Ow.below HOW3.out s2.is)
                have HLW4 := hide (below_step HLW3.out s2.is)
                have HBX4 := hide ((s2.is.block gx lgx).trans HBX3.out)
                replace lgx := Nat.lt_of_lt_of_le lgx s2.is.size
                obtain ⟨v4, hv4⟩ : ∃ v, s2.at_ = v := ⟨_, rfl⟩
                rw [hv4] at HOS4 HOW4 HLW4 HBX4 lgx hgl_ x0 y0 x1 y1 x2 y2 x3 y3 x4 y4
                simp only [hv4] at hfz
                rw [hv4]
                clear hv4 s2 HFZ3 HWN
                have HO5 := hide (own_put5 HOW4.out hqO z)
                have HB5 : Hid (Below w.heap.size w (put5 v4 go_ (q * 5) z)) := hide ((((((HLW4.out.setCell hgb_ _).setCell hgb_ _).setCell hgb_ _).setCell hgb_ _).setCell hgb_ _))
                have hnu : (Value.slice (some ⟨g, 0, none⟩) j c4).ownBlock ≠ some go_ := fun e => HNV.out e.symm
                have HOS5 : Hid (OwS w.heap.size (put5 v4 go_ (q * 5) z) (.slice (some ⟨g, 0, none⟩) j c4) R2) := hide (OwnL.setFar (OwnL.setFar (OwnL.setFar (OwnL.setFar (OwnL.setFar HOS4.out hnu _) hnu _) hnu _) hnu _) hnu _)
                clear hnu
                unfold put5 at HO5 HB5 HOS5
                go_wp2_with fail
                go_roundg m1
                case measure => exact hgm
                case rel => exact ⟨R2, O.set q z, HLEN.out, HTOT.out, by rw [← HADD.out]; exact HRES.out, by rw [List.length_set]; have := HSZ.out; omega, HRD.out, HOS5.out, HO5.out, HAP.out, HB5.out⟩
theorem mrows_any (A : Option Addr) (c : Nat) (R : List (Sv It)) (w : World) (hR : RowAt svC 1 w A R) (hrd : ∀ r ∈ R, ItemsAt w r.A r.L ∧ r.L.length ≤ r.c ∧ r.c ≤ maxLen) (hn : R.length ≤ 1000000) (hs : lenR (lsR R) ≤ 100000000) :
    Calls Try.prog 13 #[.slice A R.length c] w (RetSl (mrgG (lenR (lsR R)) (lsR R) []) w) :=
  Calls.mono (mrows_new A c R w hR hrd hn hs) (by rintro e w' ⟨v, rfl, ⟨h1, _⟩, h2⟩; exact ⟨v, rfl, h1, h2⟩)
end Go.Proofs.Ytfmckinlgaejeaa
