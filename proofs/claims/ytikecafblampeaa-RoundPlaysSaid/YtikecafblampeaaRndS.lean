/- round.Round: send, Sends: contracts. Conditions: the round as it lies. -/
import Derived.Test.YtikecafblampeaaRnd
namespace Go.Proofs.Ytikecafblampeaa
set_option linter.unusedVariables false
set_option linter.unusedSimpArgs false
open Go.ChangeShapes Go.WideShapes Go.ChangeAt Go.RowKit

theorem rsL_C (R : Rs) (m : Int) (v : Value) {k : Nat} (hk : k < 7) : (rsL R m v)[5 + k]? = some (.bool (R.C k)) := by
  unfold rsL
  rw [List.append_assoc, List.getElem?_append_right (by simp)]
  rw [show 5 + k - ([.int .i64 R.n, .int .i64 R.at_, .int .u64 R.id, .int .u64 R.f, .int .i64 R.ph] : List Value).length = k by simp, List.getElem?_append_left (by simpa using hk)]
  simp [hk]
/-- What a phase sends. -/
def kindR (R : Rs) : Int := if R.ph = 2 then 8 else 6
/-- The messages to the first k nodes. -/
def sendTo (R : Rs) (all : Bool) (k : Nat) : List Mg := ((List.range k).filter fun j => all || !R.C j).map fun (j : Nat) => toM R (j : Int) (kindR R)
def sendR (R : Rs) (all : Bool) : List Mg := if R.ph = 3 then [] else sendTo R all R.n.toNat
theorem sendTo_yes {R : Rs} {all : Bool} {k : Nat} (h : (all || !R.C k) = true) : sendTo R all (k + 1) = sendTo R all k ++ [toM R (k : Int) (kindR R)] := by
  unfold sendTo
  rw [List.range_succ, List.filter_append, List.map_append, List.filter_cons, h]
  rfl
theorem sendTo_no {R : Rs} {all : Bool} {k : Nat} (h : (all || !R.C k) = false) : sendTo R all (k + 1) = sendTo R all k := by
  unfold sendTo
  rw [List.range_succ, List.filter_append, List.map_append, List.filter_cons, h]
  simp
theorem sendTo_len (R : Rs) (all : Bool) (k : Nat) : (sendTo R all k).length ≤ k := by
  unfold sendTo
  rw [List.length_map]
  exact Nat.le_trans (List.length_filter_le _ _) (by simp)
theorem wpList_app_msg {ops : Array Oper} {rest : List Oper} {o : Oper} {a : Act} {u : World} {Q : Exit → Act → World → Prop} (hgd : o.guard = none) (s x : Operand)
    (ho : o.op = .call { callee := .builtin .append, args := #[s, x], argTypes := #[34, 34] }) (hty : o.type = 34)
    (base : Nat) (v : Value) (L : List Mg) (hs : a.eval s = v) (hown : OwnL Mg.cells 6 30 base u v L) (A : Option Addr) (c n : Nat) (M : List Mg) (hM : M.length = n) (hx : a.eval x = .slice A n c) (hr : RowAt Mg.cells 6 u A M) (hn : L.length + n ≤ 1000000) (hbase : base ≤ u.heap.size)
    (h : ∀ v' w', OwnL Mg.cells 6 30 base w' v' (L ++ M) → u.grownBy w' v.ownBlock → (v'.ownBlock = v.ownBlock ∨ v'.ownBlock = some u.heap.size) → wpList Try.prog ops Q rest (a.put o.dst v') w') : wpList Try.prog ops Q (o :: rest) a u := by
  subst hM
  refine wpList_plain hgd fun K hK => ?_
  obtain ⟨v', w', hrun, h2, h3, h4⟩ := app_msg u base v L hown A c M hr (fun e => by
    subst e
    cases M with
    | nil => rfl
    | cons a M => obtain ⟨b, off, e, _⟩ := hr (by simp); cases e) hn hbase
  unfold Oper.wp execOp
  simp only [ho, hty, resolve, invoke, builtin, Sem.run_bind, Sem.run_pure, Result.andThen_ok, List.map_toArray, List.map_cons, List.map_nil, hs, hx, hrun]
  exact hK _ _ (h v' w' h2 h3 h4)
/-- Messages in a row of one's own, their items beside it. -/
structure MsO (base : Nat) (w : World) (v : Value) (N : List Mg) : Prop where
  own : OwnL Mg.cells 6 30 base w v N
  rd : ∀ x ∈ N, x.rd w
  far : ∀ x ∈ N, ∀ a, x.A = some a → x.L ≠ [] → a.block < w.heap.size ∧ v.ownBlock ≠ some a.block
theorem MsO.below {base : Nat} {w w' : World} {v : Value} {N : List Mg} (h : MsO base w v N) (hb : Below w.heap.size w w') : MsO base w' v N :=
  ⟨OwnL.below h.own hb, fun x hx => (h.rd x hx).below hb, fun x hx a ha hn => ⟨Nat.lt_of_lt_of_le (h.far x hx a ha hn).1 hb.size, (h.far x hx a ha hn).2⟩⟩
theorem MsO.snoc {base : Nat} {w u w' : World} {v v' : Value} {N : List Mg} {x : Mg} (h : MsO base w v N) (hb : Below w.heap.size w u) (hx : x.rd u) (hf : ∀ a, x.A = some a → x.L ≠ [] → w.heap.size ≤ a.block) (ho : OwnL Mg.cells 6 30 base w' v' (N ++ [x])) (hg : u.grownBy w' v.ownBlock) (hm : v'.ownBlock = v.ownBlock ∨ v'.ownBlock = some u.heap.size) : MsO base w' v' (N ++ [x]) := by
  have hvb : ∀ g, v.ownBlock = some g → g < w.heap.size := fun g hg => (OwnL.lt h.own g hg).2
  have key : ∀ y ∈ N ++ [x], y.rd u ∧ ∀ a, y.A = some a → y.L ≠ [] → a.block < u.heap.size ∧ v.ownBlock ≠ some a.block := fun y hy => by
    rcases List.mem_append.1 hy with h1 | h1
    · exact ⟨(h.rd y h1).below hb, fun a ha hn => ⟨Nat.lt_of_lt_of_le (h.far y h1 a ha hn).1 hb.size, (h.far y h1 a ha hn).2⟩⟩
    · rw [List.mem_singleton] at h1
      subst h1
      refine ⟨hx, fun a ha hn => ⟨?_, fun e => by have := hvb _ e; have := hf a ha hn; omega⟩⟩
      obtain ⟨b, off, e, hlt, _⟩ := hx.1 hn
      rw [ha] at e
      obtain rfl := Option.some.inj e
      exact hlt
  refine ⟨ho, fun y hy => ⟨(key y hy).1.1.sets (S := fun c => v.ownBlock = some c) ⟨hg.os, hg.tape, hg.output, hg.size, fun i hi hs => hg.block i hi (fun e => hs e.symm)⟩ (fun a ha hn => ((key y hy).2 a ha hn).2), (key y hy).1.2⟩, fun y hy a ha hn => ⟨Nat.lt_of_lt_of_le ((key y hy).2 a ha hn).1 hg.size, fun e => ?_⟩⟩
  rcases hm with e1 | e1
  · exact ((key y hy).2 a ha hn).2 (by rw [← e1]; exact e)
  · rw [e1] at e
    have := Option.some.inj e
    have := ((key y hy).2 a ha hn).1
    omega
set_option maxRecDepth 100000 in
set_option maxHeartbeats 3200000 in
theorem rsend_go {w0 w : World} {b : Nat} {R : Rs} (h : RndO w0 w b R) (hl : R.L.length ≤ 1099511627776) (hp : R.ph = 1 ∨ R.ph = 2) (hn : 1 ≤ R.n ∧ R.n ≤ 7) (all : Bool) :
    Calls Try.prog 37 #[.pointer (some ⟨b, 0, none⟩), .bool all] w fun e w' => ∃ v N, e = .returned v ∧ MsO w.heap.size w' v N ∧ N.map Mg.bare = sendTo R all R.n.toNat ∧ Below w.heap.size w w' := by
  have HT := hide (fun (u : World) (hu : RndO w0 u b R) (node : Int) => rto_any hu hl node (kindR R))
  obtain ⟨n, hn1⟩ : ∃ n : Nat, R.n = (n : Int) := ⟨R.n.toNat, by omega⟩
  have hn7 : n ≤ 7 := by omega
  have HNT : Hid (R.n.toNat = n) := hide (by omega)
  have HH := hide h
  obtain ⟨v, hb, _⟩ := h.row
  have c0 : w.cell? ⟨b, 0, none⟩ = some (.int .i64 (n : Int)) := by rw [← hn1]; exact (cell_of_list (o := 0) hb).trans rfl
  have c4 : w.cell? ⟨b, 4, none⟩ = some (.int .i64 R.ph) := (cell_of_list (o := 4) hb).trans rfl
  have HK : Hid ((R.ph = 1 → kindR R = 6) ∧ (R.ph = 2 → kindR R = 8)) := hide ⟨fun e => by unfold kindR; rw [if_neg (by omega)], fun e => by unfold kindR; rw [if_pos e]⟩
  have HC : Hid (∀ (W : World) (k : Nat), k < 7 → Below w.heap.size w W → W.cell? ⟨b, 5 + k, none⟩ = some (.bool (R.C k))) := hide (fun W k hk hW => (cell_of_list ((hW.block b h.lt).trans hb)).trans (rsL_C R 0 v hk))
  obtain ⟨kd, hkd⟩ : ∃ kd, kindR R = kd := ⟨_, rfl⟩
  rw [hkd] at HT HK
  have HKD := hide hkd
  obtain ⟨ph, hph⟩ : ∃ ph, R.ph = ph := ⟨_, rfl⟩
  rw [hph] at c4 hp HK
  clear h hb hn1 hn hkd hph
  go_enter Try.func37, Try.ntmps37
  go_upto_block 0 with fail
  go_cut [5] (fun v W => v = .int .i64 kd ∧ w = W)
  case first =>
    rcases hp with rfl | rfl
    · have hk := HK.out.1 rfl
      go_wp2_with fail
      go_meet
      exact ⟨by rw [hk], rfl⟩
    · have hk := HK.out.2 rfl
      go_wp2_with fail
      go_meet
      exact ⟨by rw [hk], rfl⟩
  case rest =>
    obtain ⟨rfl, rfl⟩ := hcut
    go_upto_region 9 with fail
    go_loopw [6, 20] (fun v i wr => ∃ (k : Nat) (N : List Mg), k ≤ n ∧ i = .int .i64 k ∧ MsO w.heap.size wr v N ∧ N.map Mg.bare = sendTo R all k ∧ Below w.heap.size w wr) (fun _ i _ => n - (intOf i).toNat)
    case atStart => exact ⟨0, [], by omega, rfl, ⟨OwnL.nil_ _ _ _ _ _, fun x hx => (by cases hx), fun x hx => (by cases hx)⟩, rfl, Below.refl _ _⟩
    case round =>
      obtain ⟨k, N, hk, rfl, hO, hN, hb⟩ := hrel
      have HO := hide hO
      have HN := hide hN
      have HB := hide hb
      clear hO hb
      by_cases hlt : k < n
      · have hkI : (k : Int) < (n : Int) := by omega
        have hk7 : (k : Int) < 7 := by omega
        have hk0 : (0 : Int) ≤ (k : Int) := by omega
        have hck := HC.out wr k (by omega) HB.out
        have hNl : N.length ≤ 7 := by
          have h1 := congrArg List.length hN
          rw [List.length_map] at h1
          have := sendTo_len R all k
          omega
        clear hN
        cases all with
        | true =>
          have HSY := hide (sendTo_yes (R := R) (all := true) (k := k) rfl)
          have HTK := hide (HT.out wr (HH.out.below HB.out) (k : Int))
          go_upto_region 12 with fail
          go_wp2_with fail
          refine (Calls.mono HTK.out ?_); rintro e w5 ⟨x, rfl, hxb, hxr, hxf, hb5⟩
          have hal := below_alloc (Below.refl w5.heap.size w5) (.cells #[.int .i64 x.k, .int .i64 x.f, .int .i64 x.t, .int .u64 x.id, .int .u64 x.n, .slice x.A x.L.length x.c] 30)
          have HXX : Hid (RowAt Mg.cells 6 (w5.alloc (.cells #[.int .i64 x.k, .int .i64 x.f, .int .i64 x.t, .int .u64 x.id, .int .u64 x.n, .slice x.A x.L.length x.c] 30)) (some ⟨w5.heap.size, 0, none⟩) [x]) := hide (RowAt.new_one (cells := Mg.cells) (sz := 6) (y := x) (heap_alloc_new w5 (.cells #[.int .i64 x.k, .int .i64 x.f, .int .i64 x.t, .int .u64 x.id, .int .u64 x.n, .slice x.A x.L.length x.c] 30)))
          have HXR := hide (hxr.below hal)
          have HXF := hide hxf
          have HBU := hide (below_step hb5 hal)
          have HOU := hide (HO.out.below HBU.out)
          have HBW := hide (below_step HB.out HBU.out)
          have HXB := hide hxb
          clear hal hxr hxf hb5 hxb HTK hck
          go_wp2_with (at_builtin; refine wpList_app_msg rfl (.tmp 33) (.tmp 38) rfl rfl w.heap.size _ N rfl HOU.out.own (some ⟨w5.heap.size, 0, none⟩) 1 1 [x] rfl rfl HXX.out (by omega) HBW.out.size ?_; intro v6 w6 ho6 hg6 hm6; have HO6 := hide (HO.out.snoc HBU.out HXR.out HXF.out ho6 hg6 hm6); have HB6 := hide (HBW.out.grown hg6 HBW.out.size (fun q hq => (OwnL.lt HOU.out.own q hq).1)); clear ho6 hg6 hm6)
          have HS6 : Hid ((N ++ [x]).map Mg.bare = sendTo R true (k + 1)) := hide (by rw [HSY.out, List.map_append, HN.out, List.map_cons, HXB.out, HKD.out]; rfl)
          go_wp2_with fail
          go_roundw
          case rel => exact ⟨k + 1, N ++ [x], by omega, by go_num, HO6.out, HS6.out, HB6.out⟩
          case measure => simp only [intOf]; omega
        | false =>
          cases hc : R.C k with
          | true =>
            rw [hc] at hck
            have HS : Hid (N.map Mg.bare = sendTo R false (k + 1)) := hide (by rw [sendTo_no (by rw [hc]; rfl)]; exact HN.out)
            clear hc
            go_wp2_with fail
            go_roundw
            case rel => exact ⟨k + 1, N, by omega, by go_num, HO.out, HS.out, HB.out⟩
            case measure => simp only [intOf]; omega
          | false =>
            rw [hc] at hck
            have HSY := hide (sendTo_yes (R := R) (all := false) (k := k) (by rw [hc]; rfl))
            clear hc
            have HTK := hide (HT.out wr (HH.out.below HB.out) (k : Int))
            go_upto_region 12 with fail
            go_wp2_with fail
            refine (Calls.mono HTK.out ?_); rintro e w5 ⟨x, rfl, hxb, hxr, hxf, hb5⟩
            have hal := below_alloc (Below.refl w5.heap.size w5) (.cells #[.int .i64 x.k, .int .i64 x.f, .int .i64 x.t, .int .u64 x.id, .int .u64 x.n, .slice x.A x.L.length x.c] 30)
            have HXX : Hid (RowAt Mg.cells 6 (w5.alloc (.cells #[.int .i64 x.k, .int .i64 x.f, .int .i64 x.t, .int .u64 x.id, .int .u64 x.n, .slice x.A x.L.length x.c] 30)) (some ⟨w5.heap.size, 0, none⟩) [x]) := hide (RowAt.new_one (cells := Mg.cells) (sz := 6) (y := x) (heap_alloc_new w5 (.cells #[.int .i64 x.k, .int .i64 x.f, .int .i64 x.t, .int .u64 x.id, .int .u64 x.n, .slice x.A x.L.length x.c] 30)))
            have HXR := hide (hxr.below hal)
            have HXF := hide hxf
            have HBU := hide (below_step hb5 hal)
            have HOU := hide (HO.out.below HBU.out)
            have HBW := hide (below_step HB.out HBU.out)
            have HXB := hide hxb
            clear hal hxr hxf hb5 hxb HTK hck
            go_wp2_with (at_builtin; refine wpList_app_msg rfl (.tmp 33) (.tmp 38) rfl rfl w.heap.size _ N rfl HOU.out.own (some ⟨w5.heap.size, 0, none⟩) 1 1 [x] rfl rfl HXX.out (by omega) HBW.out.size ?_; intro v6 w6 ho6 hg6 hm6; have HO6 := hide (HO.out.snoc HBU.out HXR.out HXF.out ho6 hg6 hm6); have HB6 := hide (HBW.out.grown hg6 HBW.out.size (fun q hq => (OwnL.lt HOU.out.own q hq).1)); clear ho6 hg6 hm6)
            have HS6 : Hid ((N ++ [x]).map Mg.bare = sendTo R false (k + 1)) := hide (by rw [HSY.out, List.map_append, HN.out, List.map_cons, HXB.out, HKD.out]; rfl)
            go_wp2_with fail
            go_roundw
            case rel => exact ⟨k + 1, N ++ [x], by omega, by go_num, HO6.out, HS6.out, HB6.out⟩
            case measure => simp only [intOf]; omega
      · obtain rfl : k = n := by omega
        have hkI : ¬ (k : Int) < (k : Int) := by omega
        clear hN
        go_wp2_with fail
        go_ret
        exact ⟨_, rfl, N, HO.out, by rw [HNT.out]; exact HN.out, HB.out⟩
set_option maxRecDepth 100000 in
set_option maxHeartbeats 1600000 in
theorem rsend_end {w0 w : World} {b : Nat} {R : Rs} (h : RndO w0 w b R) (hp : R.ph = 3) (all : Bool) :
    Calls Try.prog 37 #[.pointer (some ⟨b, 0, none⟩), .bool all] w fun e w' => e = .returned (.slice none 0 0) ∧ w' = w := by
  obtain ⟨v, hb, _⟩ := h.row
  have c4 : w.cell? ⟨b, 4, none⟩ = some (.int .i64 3) := by rw [← hp]; exact (cell_of_list (o := 4) hb).trans rfl
  clear h hb
  go_enter Try.func37, Try.ntmps37
  go_wp2_with fail
  go_ret
  exact ⟨rfl, rfl⟩
theorem rsend_any {w0 w : World} {b : Nat} {R : Rs} (h : RndO w0 w b R) (hl : R.L.length ≤ 1099511627776) (hp : R.ph = 1 ∨ R.ph = 2 ∨ R.ph = 3) (hn : 1 ≤ R.n ∧ R.n ≤ 7) (all : Bool) :
    Calls Try.prog 37 #[.pointer (some ⟨b, 0, none⟩), .bool all] w fun e w' => ∃ v N, e = .returned v ∧ MsO w.heap.size w' v N ∧ N.map Mg.bare = sendR R all ∧ Below w.heap.size w w' := by
  by_cases h3 : R.ph = 3
  · refine Calls.mono (rsend_end h h3 all) ?_
    rintro e w' ⟨rfl, rfl⟩
    exact ⟨_, [], rfl, ⟨OwnL.nil_ _ _ _ _ _, fun x hx => (by cases hx), fun x hx => (by cases hx)⟩, by unfold sendR; rw [if_pos h3]; rfl, Below.refl _ _⟩
  · refine Calls.mono (rsend_go h hl (by omega) hn all) ?_
    rintro e w' ⟨v, N, rfl, h1, h2, h3'⟩
    exact ⟨v, N, rfl, h1, by unfold sendR; rw [if_neg h3]; exact h2, h3'⟩
theorem rsends_any {w0 w : World} {b : Nat} {R : Rs} (h : RndO w0 w b R) (hl : R.L.length ≤ 1099511627776) (hp : R.ph = 1 ∨ R.ph = 2 ∨ R.ph = 3) (hn : 1 ≤ R.n ∧ R.n ≤ 7) :
    Calls Try.prog 20 #[.pointer (some ⟨b, 0, none⟩)] w fun e w' => ∃ v N, e = .returned v ∧ MsO w.heap.size w' v N ∧ N.map Mg.bare = sendR R true ∧ Below w.heap.size w w' := by
  have HS := hide (rsend_any h hl hp hn true)
  clear h hl hp hn
  go_enter Try.func20, Try.ntmps20
  go_wp2_with fail
  refine (Calls.mono HS.out ?_); rintro e w1 ⟨v, N, rfl, h1, h2, h3⟩
  obtain ⟨A, c, rfl, _, _⟩ := OwnL.row Mg.cells_len h1.own
  have H1 := hide h1
  have H2 := hide h2
  have H3 := hide h3
  clear h1 h2 h3 HS
  go_wp2_with fail
  go_ret
  exact ⟨_, N, rfl, H1.out, H2.out, H3.out⟩
end Go.Proofs.Ytikecafblampeaa
