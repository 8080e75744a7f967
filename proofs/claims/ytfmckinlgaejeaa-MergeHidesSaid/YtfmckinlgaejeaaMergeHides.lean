/- The walk of clepsydralaw13.MergeHides: it returns true. Conditions: the arguments are readable. -/
import Derived.Test.YtfmckinlgaejeaaM13
import Derived.Test.YtfmckinlgaejeaaMHideP
import Derived.Test.YtfmckinlgaejeaaBits
import Derived.Deep.RegionHeld3
import Derived.Test.YtfmckinlgaejeaaHeld
namespace Go.Proofs.Ytfmckinlgaejeaa.mergeHides
set_option linter.unusedVariables false
set_option linter.unusedSimpArgs false
open Go.ChangeShapes Go.WideShapes Go.ChangeAt Go.RowKit

theorem rows_allH {w : World} {R L0 : List (Sv It)} (h : R.map (·.L) = rowsL (L0.map (·.L))) (hg : ∀ s ∈ L0, Sv.good It.cells 5 It.wf w s) : R.length ≤ 8 ∧ ∀ r ∈ R, Rising r.L ∧ r.L.length ≤ 40 ∧ ∀ x ∈ r.L, x.wf ∧ It.good x := by
  constructor
  · have := congrArg List.length h
    unfold rowsL at this
    simp at this
    omega
  · intro r hr
    have hm : r.L ∈ R.map (·.L) := List.mem_map.2 ⟨r, hr, rfl⟩
    rw [h] at hm
    unfold rowsL at hm
    obtain ⟨l, hl, e⟩ := List.mem_map.1 hm
    obtain ⟨s, hs, rfl⟩ := List.mem_map.1 (List.mem_of_mem_take hl)
    rw [← e]
    exact ⟨rk_up _, rk_len _, fun x hx => ⟨(hg s hs).ok x (rk_mem hx), rk_good hx⟩⟩
theorem len_RH : ∀ (R : List (Sv It)), (∀ r ∈ R, r.L.length ≤ 40) → lenR (lsR R) ≤ R.length * 40
  | [], _ => by simp [lenR, lsR]
  | r :: R, h => by
    have h1 := h r List.mem_cons_self
    have h2 := len_RH R (fun r hr => h r (List.mem_cons_of_mem _ hr))
    simp [lenR, lsR] at h2 ⊢
    omega
theorem skip_true {T x : It} {M : List It} {N : List It} {i : Nat} (hi : i < N.length) (hx : N[i] = x) (h : M = (N.drop i).filter (fun x => !skipN T x)) (hs : skipN T x = true) : M = (N.drop (i + 1)).filter (fun x => !skipN T x) := by
  rw [h, List.drop_eq_getElem_cons hi, List.filter_cons, hx, hs]
  rfl
theorem skip_false {T x : It} {M : List It} {N : List It} {i : Nat} (hi : i < N.length) (hx : N[i] = x) (h : M = (N.drop i).filter (fun x => !skipN T x)) (hs : skipN T x = false) : M = x :: (N.drop (i + 1)).filter (fun x => !skipN T x) := by
  rw [h, List.drop_eq_getElem_cons hi, List.filter_cons, hx, hs]
  rfl
theorem tomb_true {T y : It} {W : List It} {k : Nat} (hk : k < W.length) (hy : W[k] = y) (hs : tombS T y = true) : (W.drop k).filter (fun x => !tombS T x) = (W.drop (k + 1)).filter (fun x => !tombS T x) := by
  rw [List.drop_eq_getElem_cons hk, List.filter_cons, hy, hs]
  rfl
theorem tomb_false {T y : It} {W : List It} {k : Nat} (hk : k < W.length) (hy : W[k] = y) (hs : tombS T y = false) : (W.drop k).filter (fun x => !tombS T x) = y :: (W.drop (k + 1)).filter (fun x => !tombS T x) := by
  rw [List.drop_eq_getElem_cons hk, List.filter_cons, hy, hs]
  rfl
theorem app_ss (u : World) (base : Nat) (v : Value) (L : List (Sv It)) (hown : OwS base u v L) (A : Option Addr) (c : Nat) (M : List (Sv It)) (hr : RowAt svC 1 u A M) (hn : L.length + M.length ≤ 1000000) (hbase : base ≤ u.heap.size) :
    ∃ v' w', (Builtin.append_ #[23, 23] 23 #[v, .slice A M.length c]).run Try.prog u = .ok v' w' ∧ OwS base w' v' (L ++ M) ∧ u.grownBy w' v.ownBlock ∧ (v'.ownBlock = v.ownBlock ∨ v'.ownBlock = some u.heap.size) := by
  obtain ⟨i0, hi, hz0, hz1, hz2⟩ := info_parts Try.infoItems
  exact run_append_row (P := Try.prog) u base 23 23 22 i0 _ 1 24 Try.underlying23 hi hz0 hz1 hz2 rfl (by omega) (fun _ => rfl) v L hown A c M hr (rows_none hr) (fun m _ => svC_one m) (by simp only [maxLen]; omega) (by omega) hbase
theorem step_app_ss {ops : Array Oper} {o : Oper} {a : Act} {u : World} {K : Act → World → Prop} {Q : Exit → Act → World → Prop} {E : Prop} (hgd : o.guard = none) (s x : Operand)
    (ho : o.op = .call { callee := .builtin .append, args := #[s, x], argTypes := #[23, 23] }) (hty : o.type = 23)
    (base : Nat) (v : Value) (L : List (Sv It)) (hs : a.eval s = v) (hown : OwS base u v L) (A : Option Addr) (c n : Nat) (M : List (Sv It)) (hM : M.length = n) (hx : a.eval x = .slice A n c) (hr : RowAt svC 1 u A M) (hn : L.length + n ≤ 1000000) (hbase : base ≤ u.heap.size)
    (h : ∀ v' w', OwS base w' v' (L ++ M) → u.grownBy w' v.ownBlock → (v'.ownBlock = v.ownBlock ∨ v'.ownBlock = some u.heap.size) → K (a.put o.dst v') w') : if Region.wanted o (yielded ops a.tmps) = true then Oper.wp Try.prog o a u K Q else E := by
  subst hM
  have hw : Region.wanted o (yielded ops a.tmps) = true := by simp [Region.wanted, hgd]
  rw [if_pos hw]
  obtain ⟨v', w', hrun, h2, h3, h4⟩ := app_ss u base v L hown A c M hr hn hbase
  unfold Oper.wp execOp
  simp only [ho, hty, resolve, invoke, builtin, Sem.run_bind, Sem.run_pure, Result.andThen_ok, List.map_toArray, List.map_cons, List.map_nil, hs, hx, hrun]
  exact h v' w' h2 h3 h4
theorem ob_ne {a b n c : Nat} (h : b < a) : (Value.slice (some ⟨a, 0, none⟩) n c).ownBlock ≠ some b := fun e => by
  have e1 := Option.some.inj (show some a = some b from e)
  omega
theorem ne_moved {v v' : Value} {u : World} {b : Nat} (hm : v'.ownBlock = v.ownBlock ∨ v'.ownBlock = some u.heap.size) (hn : v.ownBlock ≠ some b) (hb : b < u.heap.size) : v'.ownBlock ≠ some b := fun e => by
  rcases hm with h | h
  · exact hn (h ▸ e)
  · rw [h] at e
    injection e
    omega
theorem row_grown {w w' : World} {row : Option Nat} {b : Nat} {M : List (Sv It)} (h : RowAt svC 1 w (some ⟨b, 0, none⟩) M) (hg : w.grownBy w' row) (hn : row ≠ some b) : RowAt svC 1 w' (some ⟨b, 0, none⟩) M := fun hM => by
  obtain ⟨b', off, e, hlt, hc⟩ := h hM
  obtain ⟨rfl, rfl⟩ : b = b' ∧ 0 = off := by injection e with h; injection h; exact ⟨by assumption, by assumption⟩
  exact ⟨b, 0, rfl, Nat.lt_of_lt_of_le hlt hg.size, fun i hi j u hu => (World.cell?_of_block (hg.block b hlt (fun e => hn e.symm))).trans (hc i hi j u hu)⟩
theorem ls_more (R : List (Sv It)) (b : Nat) (T : It) : lsR (R ++ [⟨some ⟨b, 0, none⟩, 1, [T]⟩]) = lsR R ++ [[T]] := by simp [lsR]
theorem rd_more {w : World} {R : List (Sv It)} {b : Nat} {T : It} (h : ∀ r ∈ R, ItemsAt w r.A r.L ∧ r.L.length ≤ r.c ∧ r.c ≤ maxLen) (hT : ItemsAt w (some ⟨b, 0, none⟩) [T]) : ∀ r ∈ R ++ [⟨some ⟨b, 0, none⟩, 1, [T]⟩], ItemsAt w r.A r.L ∧ r.L.length ≤ r.c ∧ r.c ≤ maxLen := by
  intro r hr
  rcases List.mem_append.1 hr with h1 | h1
  · exact h r h1
  · obtain rfl := List.mem_singleton.1 h1
    exact ⟨hT, by simp, by simp [maxLen]⟩
theorem _root_.Go.RowKit.Below.of_drew {n : Nat} {w w' : World} (h : Below n w w') : Below n w.drew w' := ⟨h.os, h.tape, h.output, h.size, h.block⟩
set_option maxRecDepth 100000 in
set_option maxHeartbeats 6400000 in
theorem walk {w : World} (A0 : Option Addr) (c0 : Nat) (L0 : List (Sv It)) (lc0 : L0.length ≤ c0) (cm0 : c0 ≤ maxLen) (r0 : RowAt (fun s => [s.val]) 1 w A0 L0) (w0 : ∀ s ∈ L0, Sv.good It.cells 5 It.wf w s)
    (a1 : Int) (w1 : (Lit.int .i64 a1).wf = true) (a2 : Int) (w2 : (Lit.int .u64 a2).wf = true) :
    Calls Try.prog 5 #[.slice A0 L0.length c0, .int .i64 a1, .int .u64 a2] w fun e w' => e = .returned (.bool true) ∧ Below w.heap.size w w' := by
  have hlr := lrows_any A0 c0 L0 w r0 w0 (by unfold maxLen at cm0; omega)
  have HLR := hide hlr
  have HW0 := hide w0
  have b1 := bounds_i64 w1
  have b2 := bounds_u64 w2
  obtain ⟨m, hm, hm0, hm1⟩ : ∃ m : Int, bits .and .i64 a1 255 = m ∧ 0 ≤ m ∧ m ≤ 255 := ⟨_, rfl, by rw [and_mask_i64 a1 8 255 (by omega) (by decide)]; omega⟩
  obtain ⟨d, hd, hd0, hd1⟩ : ∃ d : Int, bits .and .u64 a2 281474976710655 = d ∧ 0 ≤ d ∧ d ≤ 281474976710655 := ⟨_, rfl, by rw [and_mask a2 48 281474976710655 (by omega) (by decide) b2.1 (by omega)]; omega⟩
  have hdw : IntKind.u64.wrap (d + 1) = d + 1 := by rw [IntKind.wrap_u64]; omega
  clear hlr r0 w0 lc0 cm0 w1 w2 b1 b2
  obtain ⟨T, hT⟩ : ∃ T : It, (⟨m, 1, 0, d + 1, 0⟩ : It) = T := ⟨_, rfl⟩
  have HTE := hide hT
  clear hT
  go_enter Try.func5, Try.ntmps5
  go_wp2_with fail
  refine (Calls.mono HLR.out ?_); rintro e w2 ⟨v, R, rfl, ho, hmp, hrd, hb2⟩
  obtain ⟨hn8, hall⟩ := rows_allH hmp HW0.out
  obtain ⟨A, c, rfl, hrw, _, hnc, hcm⟩ := OwnL.row (cells := svC) (fun _ => rfl) ho
  have HRW := hide hrw
  have HRD : Hid (∀ r ∈ R, ItemsAt w2 r.A r.L ∧ r.L.length ≤ r.c ∧ r.c ≤ maxLen) := hide (fun r hr => ⟨(hrd r hr).1, (hrd r hr).2.1, (hrd r hr).2.2.1⟩)
  have HALL := hide hall
  have HB2 := hide hb2
  obtain ⟨n, hn⟩ : ∃ n, R.length = n := ⟨_, rfl⟩
  have HN := hide hn
  rw [hn] at hn8 hnc ⊢
  unfold maxLen at hcm
  clear ho hmp hrd hb2 hrw hall HLR HW0 hn
  obtain ⟨w3, hw3⟩ : ∃ w3, w2.alloc (.cells #[.int .i64 m, .int .i64 1, .int .u64 0, .int .u64 (d + 1), .int .i64 0] 28) = w3 := ⟨_, rfl⟩
  have hb3 : Below w2.heap.size w2 w3 := by rw [← hw3]; exact below_alloc (Below.refl _ _) _
  have hg3 : w3.heap[w2.heap.size]? = some (.cells #[.int .i64 m, .int .i64 1, .int .u64 0, .int .u64 (d + 1), .int .i64 0] 28 (0, 0)) := by rw [← hw3]; exact heap_alloc_new w2 _
  have HB3 := hide hb3
  have HG3 := hide hg3
  have HW3 := hide hw3
  clear hb3 hg3 hw3
  go_upto_region 3 with fail
  rw [HW3.out]
  clear HW3
  obtain ⟨gt, hgt⟩ : ∃ gt, w2.heap.size = gt := ⟨_, rfl⟩
  have HGT := hide hgt
  rw [hgt] at HG3
  rw [hgt]
  clear hgt
  go_cut [9] (fun v' W' => Sl W' v' (cleanL (mrgG (lenR (lsR R ++ [[T]])) (lsR R ++ [[T]]) [])) ∧ Below w3.heap.size w3 W')
  case first =>
    have hris : ∀ l ∈ lsR R ++ [[T]], Rising l := by
      intro l hl
      rcases List.mem_append.1 hl with h | h
      · obtain ⟨r, hr, rfl⟩ := List.mem_map.1 h
        exact (HALL.out r hr).1
      · rw [List.mem_singleton.1 h]
        exact rising_1 T
    have hU' := mrgG_flat hris
    rw [List.flatten_append, show [[T]].flatten = [T] from rfl] at hU'
    have HLM : Hid (lenR (lsR R ++ [[T]]) ≤ 321) := hide (by
      have := len_RH R (fun r hr => (HALL.out r hr).2.1)
      rw [HN.out] at this
      unfold lenR at this ⊢
      rw [List.map_append, List.sum_append]
      simp
      omega)
    have HUW : Hid (∀ x ∈ mrgG (lenR (lsR R ++ [[T]])) (lsR R ++ [[T]]) [], x.wf) := hide (by
      intro x hx
      have h := ((hU'.mem x).1 hx).1
      rcases List.mem_append.1 h with h | h
      · rw [List.mem_flatten] at h
        obtain ⟨l, hl, hx⟩ := h
        obtain ⟨r, hr, rfl⟩ := List.mem_map.1 hl
        exact ((HALL.out r hr).2.2 x hx).1
      · rw [List.mem_singleton.1 h, ← HTE.out]
        unfold It.wf
        simp only
        omega)
    have HUL : Hid ((mrgG (lenR (lsR R ++ [[T]])) (lsR R ++ [[T]]) []).length ≤ 321) := hide (by
      have := mrgG_len (lenR (lsR R ++ [[T]])) (lsR R ++ [[T]]) []
      rw [List.length_nil] at this
      have := HLM.out
      omega)
    clear hris hU'
    have LW : Hid (Below w3.heap.size w3 w3.drew) := hide (Below.refl _ _).drew
    refine bel_start (by kernel_rfl) ?_
    refine' bel_take (i := 1) (v := _) ?hi1 (by kernel_rfl) (by kernel_rfl) (by kernel_rfl) (Or.inl ⟨?hw1, ?hy1⟩) ?rest1
    case hi1 => (simp only [List.getElem?_toArray, List.getElem?_cons_succ, List.getElem?_cons_zero]; rfl)
    case hw1 => rfl
    case hy1 => (intro w' hw'; go_simp; try with_reducible rfl)
    try simp only [Act.put, List.setIfInBounds_toArray, List.set_cons_zero, List.set_cons_succ]
    refine' bel_take (i := 3) (v := _) ?hi3 (by kernel_rfl) (by kernel_rfl) (by kernel_rfl) (Or.inl ⟨?hw3, ?hy3⟩) ?rest3
    case hi3 => (simp only [List.getElem?_toArray, List.getElem?_cons_succ, List.getElem?_cons_zero]; rfl)
    case hw3 => rfl
    case hy3 => (intro w' hw'; have hgk := HG3.out; obtain ⟨l0, g0, g1, g2, g3, g4, _⟩ := res5 hgk; have g0 := (hw'.cell (p := ⟨gt, 0, none⟩) l0).trans g0; have g1 := (hw'.cell (p := ⟨gt, 1, none⟩) l0).trans g1; have g2 := (hw'.cell (p := ⟨gt, 2, none⟩) l0).trans g2; have g3 := (hw'.cell (p := ⟨gt, 3, none⟩) l0).trans g3; have g4 := (hw'.cell (p := ⟨gt, 4, none⟩) l0).trans g4; go_simp; try with_reducible rfl)
    try simp only [Act.put, List.setIfInBounds_toArray, List.set_cons_zero, List.set_cons_succ]
    refine wpAnyH_ready (rs := [0, 4]) (by kernel_rfl) (by simp) ?_
    refine' (AllReadyH.cons (o := _) ?ho0n0 (fun K hK => ?step0n0) (AllReadyH.cons (o := _) ?ho4n0 (fun K hK => ?step4n0) AllReadyH.nil))
    case ho0n0 => (simp only [List.getElem?_toArray, List.getElem?_cons_succ, List.getElem?_cons_zero]; rfl)
    case ho4n0 => (simp only [List.getElem?_toArray, List.getElem?_cons_succ, List.getElem?_cons_zero]; rfl)
    case step0n0 =>
      go_simp
      have HA := hide (own_emptyE svC 1 22 w3.heap.size w3.drew LW.out.size)
      have hal := below_alloc (Below.refl w3.drew.heap.size w3.drew) (.cells #[] 22)
      have LW := hide (below_step LW.out hal)
      obtain ⟨e0, he0⟩ : ∃ e0, w3.heap.size = e0 := ⟨_, rfl⟩
      obtain ⟨u1, hu1⟩ : ∃ v, (w3.alloc (.cells #[] 22)).drew = v := ⟨_, rfl⟩
      have HA : Hid (OwS w3.heap.size u1 (.slice (some ⟨e0, 0, none⟩) 0 0) []) := hide (by rw [← he0, ← hu1]; exact HA.out)
      have LW : Hid (Below w3.heap.size w3 u1) := hide (by rw [← hu1]; exact LW.out)
      rw [he0]
      rw [hu1]
      clear hal he0 hu1
      refine hK.out _ _ (LW.out.of_drew) (fun _ => ?_)
      clear hK K
      try simp only [Act.put, List.setIfInBounds_toArray, List.set_cons_zero, List.set_cons_succ]
      refine wpAnyH_ready (rs := [2, 4]) (by kernel_rfl) (by simp) ?_
      refine' (AllReadyH.cons (o := _) ?ho2n1 (fun K hK => ?step2n1) (AllReadyH.cons (o := _) ?ho4n1 (fun K hK => ?step4n1) AllReadyH.nil))
      case ho2n1 => (simp only [List.getElem?_toArray, List.getElem?_cons_succ, List.getElem?_cons_zero]; rfl)
      case ho4n1 => (simp only [List.getElem?_toArray, List.getElem?_cons_succ, List.getElem?_cons_zero]; rfl)
      case step2n1 =>
        refine step_app_ss rfl (.tmp 22) (.tmp 23) rfl rfl w3.heap.size _ [] rfl HA.out A c n R HN.out rfl ((HRW.out.below HB3.out).below LW.out) (by simp; omega) LW.out.size ?_
        intro v24 w24 ho24 hg24 hm24
        have LW2 := hide (LW.out.grown hg24 LW.out.size (fun q hq => (OwnL.lt HA.out q hq).1))
        have HA := hide ho24
        have LW := LW2
        clear ho24 hg24 hm24 LW2
        refine hK.out _ _ (LW.out.of_drew) (fun _ => ?_)
        clear hK K
        try simp only [Act.put, List.setIfInBounds_toArray, List.set_cons_zero, List.set_cons_succ]
        refine wpAnyH_ready (rs := [4]) (by kernel_rfl) (by simp) ?_
        refine' (AllReadyH.cons (o := _) ?ho4n2 (fun K hK => ?step4n2) AllReadyH.nil)
        case ho4n2 => (simp only [List.getElem?_toArray, List.getElem?_cons_succ, List.getElem?_cons_zero]; rfl)
        case step4n2 =>
          go_simp
          have hal := below_alloc (Below.refl w24.heap.size w24) (.cells #[.int .i64 m, .int .i64 1, .int .u64 0, .int .u64 (d + 1), .int .i64 0] 28)
          have HT : Hid (ItemsAt (w24.alloc (.cells #[.int .i64 m, .int .i64 1, .int .u64 0, .int .u64 (d + 1), .int .i64 0] 28)) (some ⟨w24.heap.size, 0, none⟩) [T]) := hide (by rw [← HTE.out]; exact RowAt.new_one (cells := It.cells) (y := ⟨m, 1, 0, d + 1, 0⟩) (heap_alloc_new w24 _))
          have HL1 : Hid (w24.heap.size < (w24.alloc (.cells #[.int .i64 m, .int .i64 1, .int .u64 0, .int .u64 (d + 1), .int .i64 0] 28)).heap.size) := hide (by simp)
          have HN1 := hide (fun e => by have := (OwnL.lt HA.out w24.heap.size e).2; omega : Value.ownBlock v24 ≠ some w24.heap.size)
          have HA := hide (OwnL.below HA.out hal)
          have LW := hide (below_step LW.out hal)
          obtain ⟨b26, hb26⟩ : ∃ b26, w24.heap.size = b26 := ⟨_, rfl⟩
          obtain ⟨u3, hu3⟩ : ∃ v, w24.alloc (.cells #[.int .i64 m, .int .i64 1, .int .u64 0, .int .u64 (d + 1), .int .i64 0] 28) = v := ⟨_, rfl⟩
          have HT : Hid (ItemsAt u3 (some ⟨b26, 0, none⟩) [T]) := hide (by rw [← hb26, ← hu3]; exact HT.out)
          have HL1 : Hid (b26 < u3.heap.size) := hide (by rw [← hb26, ← hu3]; exact HL1.out)
          have LW : Hid (Below w3.heap.size w3 u3) := hide (by rw [← hu3]; exact LW.out)
          have HA : Hid (OwS w3.heap.size u3 v24 ([] ++ R)) := hide (by rw [← hu3]; exact HA.out)
          have HN1 : Hid (Value.ownBlock v24 ≠ some b26) := hide (by rw [← hb26]; exact HN1.out)
          rw [hb26]
          rw [hu3]
          clear hal hb26 hu3
          refine hK.out _ _ (LW.out.of_drew) (fun _ => ?_)
          clear hK K
          try simp only [Act.put, List.setIfInBounds_toArray, List.set_cons_zero, List.set_cons_succ]
          refine wpAnyH_ready (rs := [5]) (by kernel_rfl) (by simp) ?_
          refine' (AllReadyH.cons (o := _) ?ho5n3 (fun K hK => ?step5n3) AllReadyH.nil)
          case ho5n3 => (simp only [List.getElem?_toArray, List.getElem?_cons_succ, List.getElem?_cons_zero]; rfl)
          case step5n3 =>
            go_simp
            have hal := below_alloc (Below.refl u3.heap.size u3) (.cells #[.slice (some ⟨b26, 0, none⟩) 1 1] 22)
            have HS2 : Hid (RowAt svC 1 (u3.alloc (.cells #[.slice (some ⟨b26, 0, none⟩) 1 1] 22)) (some ⟨u3.heap.size, 0, none⟩) [⟨some ⟨b26, 0, none⟩, 1, [T]⟩]) := hide (RowAt.new_one (cells := svC) (y := ⟨some ⟨b26, 0, none⟩, 1, [T]⟩) (heap_alloc_new u3 _))
            have HL2 : Hid (u3.heap.size < (u3.alloc (.cells #[.slice (some ⟨b26, 0, none⟩) 1 1] 22)).heap.size) := hide (by simp)
            have HT := hide (HT.out.below hal)
            have HL1 := hide (Nat.lt_of_lt_of_le HL1.out hal.size)
            have HN2 := hide (fun e => by have := (OwnL.lt HA.out u3.heap.size e).2; omega : Value.ownBlock v24 ≠ some u3.heap.size)
            have HA := hide (OwnL.below HA.out hal)
            have LW := hide (below_step LW.out hal)
            obtain ⟨b27, hb27⟩ : ∃ b27, u3.heap.size = b27 := ⟨_, rfl⟩
            obtain ⟨u4, hu4⟩ : ∃ v, u3.alloc (.cells #[.slice (some ⟨b26, 0, none⟩) 1 1] 22) = v := ⟨_, rfl⟩
            have HS2 : Hid (RowAt svC 1 u4 (some ⟨b27, 0, none⟩) [⟨some ⟨b26, 0, none⟩, 1, [T]⟩]) := hide (by rw [← hb27, ← hu4]; exact HS2.out)
            have HL2 : Hid (b27 < u4.heap.size) := hide (by rw [← hb27, ← hu4]; exact HL2.out)
            have LW : Hid (Below w3.heap.size w3 u4) := hide (by rw [← hu4]; exact LW.out)
            have HT : Hid (ItemsAt u4 (some ⟨b26, 0, none⟩) [T]) := hide (by rw [← hu4]; exact HT.out)
            have HL1 : Hid (b26 < u4.heap.size) := hide (by rw [← hu4]; exact HL1.out)
            have HA : Hid (OwS w3.heap.size u4 v24 ([] ++ R)) := hide (by rw [← hu4]; exact HA.out)
            have HN2 : Hid (Value.ownBlock v24 ≠ some b27) := hide (by rw [← hb27]; exact HN2.out)
            rw [hb27]
            rw [hu4]
            clear hal hb27 hu4
            refine hK.out _ _ (LW.out.of_drew) (fun _ => ?_)
            clear hK K
            try simp only [Act.put, List.setIfInBounds_toArray, List.set_cons_zero, List.set_cons_succ]
            refine wpAnyH_ready (rs := [6]) (by kernel_rfl) (by simp) ?_
            refine' (AllReadyH.cons (o := _) ?ho6n4 (fun K hK => ?step6n4) AllReadyH.nil)
            case ho6n4 => (simp only [List.getElem?_toArray, List.getElem?_cons_succ, List.getElem?_cons_zero]; rfl)
            case step6n4 =>
              refine step_app_ss rfl (.tmp 24) (.tmp 27) rfl rfl w3.heap.size _ ([] ++ R) rfl HA.out (some ⟨b27, 0, none⟩) 1 1 [⟨some ⟨b26, 0, none⟩, 1, [T]⟩] rfl rfl HS2.out (by rw [List.nil_append, HN.out]; omega) LW.out.size ?_
              intro v28 w28 ho28 hg28 hm28
              have LW2 := hide (LW.out.grown hg28 LW.out.size (fun q hq => (OwnL.lt HA.out q hq).1))
              have HT28 := hide (items_grown HT.out hg28 (fun a ha _ => by obtain rfl := Option.some.inj ha; exact HN1.out))
              obtain ⟨A28, c28, hv28, hr28, _, _, _⟩ := OwnL.row (cells := svC) (fun _ => rfl) ho28
              rw [List.nil_append] at hr28 hv28
              have hl28 : (R ++ [(⟨some ⟨b26, 0, none⟩, 1, [T]⟩ : Sv It)]).length = n + 1 := by rw [List.length_append, HN.out]; rfl
              rw [hl28] at hv28
              subst hv28
              have hmr := mrows_any A28 c28 (R ++ [⟨some ⟨b26, 0, none⟩, 1, [T]⟩]) w28 hr28 (rd_more (fun r hr => ⟨((HRD.out r hr).1.below HB3.out).below LW2.out, (HRD.out r hr).2⟩) HT28.out) (by rw [List.length_append, HN.out]; simp; omega) (by rw [ls_more]; have := HLM.out; omega)
              rw [ls_more, hl28] at hmr
              have HMR := hide hmr
              have LW := LW2
              clear ho28 hg28 hm28 hr28 hmr LW2 hl28
              refine hK.out _ _ (LW.out.of_drew) (fun _ => ?_)
              clear hK K
              try simp only [Act.put, List.setIfInBounds_toArray, List.set_cons_zero, List.set_cons_succ]
              refine wpAnyH_ready (rs := [7]) (by kernel_rfl) (by simp) ?_
              refine' (AllReadyH.cons (o := _) ?ho7m5 (fun K hK => ?step7m5) AllReadyH.nil)
              case ho7m5 => (simp only [List.getElem?_toArray, List.getElem?_cons_succ, List.getElem?_cons_zero]; rfl)
              case step7m5 =>
                go_simp
                refine (Calls.mono HMR.out ?_); rintro e w29 ⟨v29, rfl, hs29, hb29⟩
                obtain ⟨A29, c29, rfl, hr29, _, _⟩ := hs29
                have HR29 := hide hr29
                have LW := hide (below_step LW.out hb29)
                clear hr29 hb29 HMR
                refine hK.out _ _ (LW.out.of_drew) (fun _ => ?_)
                clear hK K
                try simp only [Act.put, List.setIfInBounds_toArray, List.set_cons_zero, List.set_cons_succ]
                refine wpAnyH_ready (rs := [8]) (by kernel_rfl) (by simp) ?_
                refine' (AllReadyH.cons (o := _) ?ho8c6 (fun K hK => ?step8c6) AllReadyH.nil)
                case ho8c6 => (simp only [List.getElem?_toArray, List.getElem?_cons_succ, List.getElem?_cons_zero]; rfl)
                case step8c6 =>
                  go_simp
                  refine (Calls.mono (clean_any A29 c29 _ _ HR29.out HUW.out (by have := HUL.out; omega)) ?_); rintro e w30 ⟨⟨v30, rfl, ho30⟩, hb30⟩
                  have HS30 := hide ho30.sl
                  have LW := hide (below_step LW.out hb30)
                  clear ho30 hb30
                  refine hK.out _ _ (LW.out.of_drew) (fun _ => ?_)
                  clear hK K
                  try simp only [Act.put, List.setIfInBounds_toArray, List.set_cons_zero, List.set_cons_succ]
                  refine wpAnyH_ready (rs := [9]) (by kernel_rfl) (by simp) ?_
                  refine' (AllReadyH.cons (o := _) ?ho9q7 (fun K hK => ?step9q7) AllReadyH.nil)
                  case ho9q7 => (simp only [List.getElem?_toArray, List.getElem?_cons_succ, List.getElem?_cons_zero]; rfl)
                  case step9q7 =>
                    go_simp
                    refine hK.out _ _ (LW.out.of_drew) (fun _ => ?_)
                    clear hK K
                    try simp only [Act.put, List.setIfInBounds_toArray, List.set_cons_zero, List.set_cons_succ]
                    refine wpAnyH_done (by kernel_rfl) ?_ _
                    refine NoPanic.normal ?_
                    go_wp2_with fail
                    go_meet
                    exact ⟨HS30.out, LW.out⟩
      case step4n1 =>
        go_simp
        have hal := below_alloc (Below.refl u1.heap.size u1) (.cells #[.int .i64 m, .int .i64 1, .int .u64 0, .int .u64 (d + 1), .int .i64 0] 28)
        have HT : Hid (ItemsAt (u1.alloc (.cells #[.int .i64 m, .int .i64 1, .int .u64 0, .int .u64 (d + 1), .int .i64 0] 28)) (some ⟨u1.heap.size, 0, none⟩) [T]) := hide (by rw [← HTE.out]; exact RowAt.new_one (cells := It.cells) (y := ⟨m, 1, 0, d + 1, 0⟩) (heap_alloc_new u1 _))
        have HL1 : Hid (u1.heap.size < (u1.alloc (.cells #[.int .i64 m, .int .i64 1, .int .u64 0, .int .u64 (d + 1), .int .i64 0] 28)).heap.size) := hide (by simp)
        have HN1 := hide (fun e => by have := (OwnL.lt HA.out u1.heap.size e).2; omega : Value.ownBlock (.slice (some ⟨e0, 0, none⟩) 0 0) ≠ some u1.heap.size)
        have HA := hide (OwnL.below HA.out hal)
        have LW := hide (below_step LW.out hal)
        obtain ⟨b26, hb26⟩ : ∃ b26, u1.heap.size = b26 := ⟨_, rfl⟩
        obtain ⟨u8, hu8⟩ : ∃ v, u1.alloc (.cells #[.int .i64 m, .int .i64 1, .int .u64 0, .int .u64 (d + 1), .int .i64 0] 28) = v := ⟨_, rfl⟩
        have HT : Hid (ItemsAt u8 (some ⟨b26, 0, none⟩) [T]) := hide (by rw [← hb26, ← hu8]; exact HT.out)
        have HL1 : Hid (b26 < u8.heap.size) := hide (by rw [← hb26, ← hu8]; exact HL1.out)
        have LW : Hid (Below w3.heap.size w3 u8) := hide (by rw [← hu8]; exact LW.out)
        have HA : Hid (OwS w3.heap.size u8 (.slice (some ⟨e0, 0, none⟩) 0 0) []) := hide (by rw [← hu8]; exact HA.out)
        have HN1 : Hid (Value.ownBlock (.slice (some ⟨e0, 0, none⟩) 0 0) ≠ some b26) := hide (by rw [← hb26]; exact HN1.out)
        rw [hb26]
        rw [hu8]
        clear hal hb26 hu8
        refine hK.out _ _ (LW.out.of_drew) (fun _ => ?_)
        clear hK K
        try simp only [Act.put, List.setIfInBounds_toArray, List.set_cons_zero, List.set_cons_succ]
        refine wpAnyH_ready (rs := [2, 5]) (by kernel_rfl) (by simp) ?_
        refine' (AllReadyH.cons (o := _) ?ho2n8 (fun K hK => ?step2n8) (AllReadyH.cons (o := _) ?ho5n8 (fun K hK => ?step5n8) AllReadyH.nil))
        case ho2n8 => (simp only [List.getElem?_toArray, List.getElem?_cons_succ, List.getElem?_cons_zero]; rfl)
        case ho5n8 => (simp only [List.getElem?_toArray, List.getElem?_cons_succ, List.getElem?_cons_zero]; rfl)
        case step2n8 =>
          refine step_app_ss rfl (.tmp 22) (.tmp 23) rfl rfl w3.heap.size _ [] rfl HA.out A c n R HN.out rfl ((HRW.out.below HB3.out).below LW.out) (by simp; omega) LW.out.size ?_
          intro v24 w24 ho24 hg24 hm24
          have LW2 := hide (LW.out.grown hg24 LW.out.size (fun q hq => (OwnL.lt HA.out q hq).1))
          have hn1 := HN1.out
          have HN1 : Hid (v24.ownBlock ≠ some b26) := hide (ne_moved hm24 hn1 HL1.out)
          have HT := hide (items_grown HT.out hg24 (fun a ha _ => by obtain rfl := Option.some.inj ha; exact hn1))
          have HL1 := hide (Nat.lt_of_lt_of_le HL1.out hg24.size)
          have HA := hide ho24
          have LW := LW2
          clear ho24 hg24 hm24 LW2 hn1
          refine hK.out _ _ (LW.out.of_drew) (fun _ => ?_)
          clear hK K
          try simp only [Act.put, List.setIfInBounds_toArray, List.set_cons_zero, List.set_cons_succ]
          refine wpAnyH_ready (rs := [5]) (by kernel_rfl) (by simp) ?_
          refine' (AllReadyH.cons (o := _) ?ho5n9 (fun K hK => ?step5n9) AllReadyH.nil)
          case ho5n9 => (simp only [List.getElem?_toArray, List.getElem?_cons_succ, List.getElem?_cons_zero]; rfl)
          case step5n9 =>
            go_simp
            have hal := below_alloc (Below.refl w24.heap.size w24) (.cells #[.slice (some ⟨b26, 0, none⟩) 1 1] 22)
            have HS2 : Hid (RowAt svC 1 (w24.alloc (.cells #[.slice (some ⟨b26, 0, none⟩) 1 1] 22)) (some ⟨w24.heap.size, 0, none⟩) [⟨some ⟨b26, 0, none⟩, 1, [T]⟩]) := hide (RowAt.new_one (cells := svC) (y := ⟨some ⟨b26, 0, none⟩, 1, [T]⟩) (heap_alloc_new w24 _))
            have HL2 : Hid (w24.heap.size < (w24.alloc (.cells #[.slice (some ⟨b26, 0, none⟩) 1 1] 22)).heap.size) := hide (by simp)
            have HT := hide (HT.out.below hal)
            have HL1 := hide (Nat.lt_of_lt_of_le HL1.out hal.size)
            have HN2 := hide (fun e => by have := (OwnL.lt HA.out w24.heap.size e).2; omega : Value.ownBlock v24 ≠ some w24.heap.size)
            have HA := hide (OwnL.below HA.out hal)
            have LW := hide (below_step LW.out hal)
            obtain ⟨b27, hb27⟩ : ∃ b27, w24.heap.size = b27 := ⟨_, rfl⟩
            obtain ⟨u10, hu10⟩ : ∃ v, w24.alloc (.cells #[.slice (some ⟨b26, 0, none⟩) 1 1] 22) = v := ⟨_, rfl⟩
            have HS2 : Hid (RowAt svC 1 u10 (some ⟨b27, 0, none⟩) [⟨some ⟨b26, 0, none⟩, 1, [T]⟩]) := hide (by rw [← hb27, ← hu10]; exact HS2.out)
            have HL2 : Hid (b27 < u10.heap.size) := hide (by rw [← hb27, ← hu10]; exact HL2.out)
            have LW : Hid (Below w3.heap.size w3 u10) := hide (by rw [← hu10]; exact LW.out)
            have HT : Hid (ItemsAt u10 (some ⟨b26, 0, none⟩) [T]) := hide (by rw [← hu10]; exact HT.out)
            have HL1 : Hid (b26 < u10.heap.size) := hide (by rw [← hu10]; exact HL1.out)
            have HA : Hid (OwS w3.heap.size u10 v24 ([] ++ R)) := hide (by rw [← hu10]; exact HA.out)
            have HN2 : Hid (Value.ownBlock v24 ≠ some b27) := hide (by rw [← hb27]; exact HN2.out)
            rw [hb27]
            rw [hu10]
            clear hal hb27 hu10
            refine hK.out _ _ (LW.out.of_drew) (fun _ => ?_)
            clear hK K
            try simp only [Act.put, List.setIfInBounds_toArray, List.set_cons_zero, List.set_cons_succ]
            refine wpAnyH_ready (rs := [6]) (by kernel_rfl) (by simp) ?_
            refine' (AllReadyH.cons (o := _) ?ho6n10 (fun K hK => ?step6n10) AllReadyH.nil)
            case ho6n10 => (simp only [List.getElem?_toArray, List.getElem?_cons_succ, List.getElem?_cons_zero]; rfl)
            case step6n10 =>
              refine step_app_ss rfl (.tmp 24) (.tmp 27) rfl rfl w3.heap.size _ ([] ++ R) rfl HA.out (some ⟨b27, 0, none⟩) 1 1 [⟨some ⟨b26, 0, none⟩, 1, [T]⟩] rfl rfl HS2.out (by rw [List.nil_append, HN.out]; omega) LW.out.size ?_
              intro v28 w28 ho28 hg28 hm28
              have LW2 := hide (LW.out.grown hg28 LW.out.size (fun q hq => (OwnL.lt HA.out q hq).1))
              have HT28 := hide (items_grown HT.out hg28 (fun a ha _ => by obtain rfl := Option.some.inj ha; exact HN1.out))
              obtain ⟨A28, c28, hv28, hr28, _, _, _⟩ := OwnL.row (cells := svC) (fun _ => rfl) ho28
              rw [List.nil_append] at hr28 hv28
              have hl28 : (R ++ [(⟨some ⟨b26, 0, none⟩, 1, [T]⟩ : Sv It)]).length = n + 1 := by rw [List.length_append, HN.out]; rfl
              rw [hl28] at hv28
              subst hv28
              have hmr := mrows_any A28 c28 (R ++ [⟨some ⟨b26, 0, none⟩, 1, [T]⟩]) w28 hr28 (rd_more (fun r hr => ⟨((HRD.out r hr).1.below HB3.out).below LW2.out, (HRD.out r hr).2⟩) HT28.out) (by rw [List.length_append, HN.out]; simp; omega) (by rw [ls_more]; have := HLM.out; omega)
              rw [ls_more, hl28] at hmr
              have HMR := hide hmr
              have LW := LW2
              clear ho28 hg28 hm28 hr28 hmr LW2 hl28
              refine hK.out _ _ (LW.out.of_drew) (fun _ => ?_)
              clear hK K
              try simp only [Act.put, List.setIfInBounds_toArray, List.set_cons_zero, List.set_cons_succ]
              refine wpAnyH_ready (rs := [7]) (by kernel_rfl) (by simp) ?_
              refine' (AllReadyH.cons (o := _) ?ho7m11 (fun K hK => ?step7m11) AllReadyH.nil)
              case ho7m11 => (simp only [List.getElem?_toArray, List.getElem?_cons_succ, List.getElem?_cons_zero]; rfl)
              case step7m11 =>
                go_simp
                refine (Calls.mono HMR.out ?_); rintro e w29 ⟨v29, rfl, hs29, hb29⟩
                obtain ⟨A29, c29, rfl, hr29, _, _⟩ := hs29
                have HR29 := hide hr29
                have LW := hide (below_step LW.out hb29)
                clear hr29 hb29 HMR
                refine hK.out _ _ (LW.out.of_drew) (fun _ => ?_)
                clear hK K
                try simp only [Act.put, List.setIfInBounds_toArray, List.set_cons_zero, List.set_cons_succ]
                refine wpAnyH_ready (rs := [8]) (by kernel_rfl) (by simp) ?_
                refine' (AllReadyH.cons (o := _) ?ho8c12 (fun K hK => ?step8c12) AllReadyH.nil)
                case ho8c12 => (simp only [List.getElem?_toArray, List.getElem?_cons_succ, List.getElem?_cons_zero]; rfl)
                case step8c12 =>
                  go_simp
                  refine (Calls.mono (clean_any A29 c29 _ _ HR29.out HUW.out (by have := HUL.out; omega)) ?_); rintro e w30 ⟨⟨v30, rfl, ho30⟩, hb30⟩
                  have HS30 := hide ho30.sl
                  have LW := hide (below_step LW.out hb30)
                  clear ho30 hb30
                  refine hK.out _ _ (LW.out.of_drew) (fun _ => ?_)
                  clear hK K
                  try simp only [Act.put, List.setIfInBounds_toArray, List.set_cons_zero, List.set_cons_succ]
                  refine wpAnyH_ready (rs := [9]) (by kernel_rfl) (by simp) ?_
                  refine' (AllReadyH.cons (o := _) ?ho9q13 (fun K hK => ?step9q13) AllReadyH.nil)
                  case ho9q13 => (simp only [List.getElem?_toArray, List.getElem?_cons_succ, List.getElem?_cons_zero]; rfl)
                  case step9q13 =>
                    go_simp
                    refine hK.out _ _ (LW.out.of_drew) (fun _ => ?_)
                    clear hK K
                    try simp only [Act.put, List.setIfInBounds_toArray, List.set_cons_zero, List.set_cons_succ]
                    refine wpAnyH_done (by kernel_rfl) ?_ _
                    refine NoPanic.normal ?_
                    go_wp2_with fail
                    go_meet
                    exact ⟨HS30.out, LW.out⟩
        case step5n8 =>
          go_simp
          have hal := below_alloc (Below.refl u8.heap.size u8) (.cells #[.slice (some ⟨b26, 0, none⟩) 1 1] 22)
          have HS2 : Hid (RowAt svC 1 (u8.alloc (.cells #[.slice (some ⟨b26, 0, none⟩) 1 1] 22)) (some ⟨u8.heap.size, 0, none⟩) [⟨some ⟨b26, 0, none⟩, 1, [T]⟩]) := hide (RowAt.new_one (cells := svC) (y := ⟨some ⟨b26, 0, none⟩, 1, [T]⟩) (heap_alloc_new u8 _))
          have HL2 : Hid (u8.heap.size < (u8.alloc (.cells #[.slice (some ⟨b26, 0, none⟩) 1 1] 22)).heap.size) := hide (by simp)
          have HT := hide (HT.out.below hal)
          have HL1 := hide (Nat.lt_of_lt_of_le HL1.out hal.size)
          have HN2 := hide (fun e => by have := (OwnL.lt HA.out u8.heap.size e).2; omega : Value.ownBlock (.slice (some ⟨e0, 0, none⟩) 0 0) ≠ some u8.heap.size)
          have HA := hide (OwnL.below HA.out hal)
          have LW := hide (below_step LW.out hal)
          obtain ⟨b27, hb27⟩ : ∃ b27, u8.heap.size = b27 := ⟨_, rfl⟩
          obtain ⟨u14, hu14⟩ : ∃ v, u8.alloc (.cells #[.slice (some ⟨b26, 0, none⟩) 1 1] 22) = v := ⟨_, rfl⟩
          have HS2 : Hid (RowAt svC 1 u14 (some ⟨b27, 0, none⟩) [⟨some ⟨b26, 0, none⟩, 1, [T]⟩]) := hide (by rw [← hb27, ← hu14]; exact HS2.out)
          have HL2 : Hid (b27 < u14.heap.size) := hide (by rw [← hb27, ← hu14]; exact HL2.out)
          have LW : Hid (Below w3.heap.size w3 u14) := hide (by rw [← hu14]; exact LW.out)
          have HT : Hid (ItemsAt u14 (some ⟨b26, 0, none⟩) [T]) := hide (by rw [← hu14]; exact HT.out)
          have HL1 : Hid (b26 < u14.heap.size) := hide (by rw [← hu14]; exact HL1.out)
          have HA : Hid (OwS w3.heap.size u14 (.slice (some ⟨e0, 0, none⟩) 0 0) []) := hide (by rw [← hu14]; exact HA.out)
          have HN2 : Hid (Value.ownBlock (.slice (some ⟨e0, 0, none⟩) 0 0) ≠ some b27) := hide (by rw [← hb27]; exact HN2.out)
          rw [hb27]
          rw [hu14]
          clear hal hb27 hu14
          refine hK.out _ _ (LW.out.of_drew) (fun _ => ?_)
          clear hK K
          try simp only [Act.put, List.setIfInBounds_toArray, List.set_cons_zero, List.set_cons_succ]
          refine wpAnyH_ready (rs := [2]) (by kernel_rfl) (by simp) ?_
          refine' (AllReadyH.cons (o := _) ?ho2n14 (fun K hK => ?step2n14) AllReadyH.nil)
          case ho2n14 => (simp only [List.getElem?_toArray, List.getElem?_cons_succ, List.getElem?_cons_zero]; rfl)
          case step2n14 =>
            refine step_app_ss rfl (.tmp 22) (.tmp 23) rfl rfl w3.heap.size _ [] rfl HA.out A c n R HN.out rfl ((HRW.out.below HB3.out).below LW.out) (by simp; omega) LW.out.size ?_
            intro v24 w24 ho24 hg24 hm24
            have LW2 := hide (LW.out.grown hg24 LW.out.size (fun q hq => (OwnL.lt HA.out q hq).1))
            have hn1 := HN1.out
            have HN1 : Hid (v24.ownBlock ≠ some b26) := hide (ne_moved hm24 hn1 HL1.out)
            have HT := hide (items_grown HT.out hg24 (fun a ha _ => by obtain rfl := Option.some.inj ha; exact hn1))
            have HL1 := hide (Nat.lt_of_lt_of_le HL1.out hg24.size)
            have hn2 := HN2.out
            have HN2 : Hid (v24.ownBlock ≠ some b27) := hide (ne_moved hm24 hn2 HL2.out)
            have HS2 := hide (row_grown HS2.out hg24 hn2)
            have HL2 := hide (Nat.lt_of_lt_of_le HL2.out hg24.size)
            have HA := hide ho24
            have LW := LW2
            clear ho24 hg24 hm24 LW2 hn1 hn2
            refine hK.out _ _ (LW.out.of_drew) (fun _ => ?_)
            clear hK K
            try simp only [Act.put, List.setIfInBounds_toArray, List.set_cons_zero, List.set_cons_succ]
            refine wpAnyH_ready (rs := [6]) (by kernel_rfl) (by simp) ?_
            refine' (AllReadyH.cons (o := _) ?ho6n15 (fun K hK => ?step6n15) AllReadyH.nil)
            case ho6n15 => (simp only [List.getElem?_toArray, List.getElem?_cons_succ, List.getElem?_cons_zero]; rfl)
            case step6n15 =>
              refine step_app_ss rfl (.tmp 24) (.tmp 27) rfl rfl w3.heap.size _ ([] ++ R) rfl HA.out (some ⟨b27, 0, none⟩) 1 1 [⟨some ⟨b26, 0, none⟩, 1, [T]⟩] rfl rfl HS2.out (by rw [List.nil_append, HN.out]; omega) LW.out.size ?_
              intro v28 w28 ho28 hg28 hm28
              have LW2 := hide (LW.out.grown hg28 LW.out.size (fun q hq => (OwnL.lt HA.out q hq).1))
              have HT28 := hide (items_grown HT.out hg28 (fun a ha _ => by obtain rfl := Option.some.inj ha; exact HN1.out))
              obtain ⟨A28, c28, hv28, hr28, _, _, _⟩ := OwnL.row (cells := svC) (fun _ => rfl) ho28
              rw [List.nil_append] at hr28 hv28
              have hl28 : (R ++ [(⟨some ⟨b26, 0, none⟩, 1, [T]⟩ : Sv It)]).length = n + 1 := by rw [List.length_append, HN.out]; rfl
              rw [hl28] at hv28
              subst hv28
              have hmr := mrows_any A28 c28 (R ++ [⟨some ⟨b26, 0, none⟩, 1, [T]⟩]) w28 hr28 (rd_more (fun r hr => ⟨((HRD.out r hr).1.below HB3.out).below LW2.out, (HRD.out r hr).2⟩) HT28.out) (by rw [List.length_append, HN.out]; simp; omega) (by rw [ls_more]; have := HLM.out; omega)
              rw [ls_more, hl28] at hmr
              have HMR := hide hmr
              have LW := LW2
              clear ho28 hg28 hm28 hr28 hmr LW2 hl28
              refine hK.out _ _ (LW.out.of_drew) (fun _ => ?_)
              clear hK K
              try simp only [Act.put, List.setIfInBounds_toArray, List.set_cons_zero, List.set_cons_succ]
              refine wpAnyH_ready (rs := [7]) (by kernel_rfl) (by simp) ?_
              refine' (AllReadyH.cons (o := _) ?ho7m16 (fun K hK => ?step7m16) AllReadyH.nil)
              case ho7m16 => (simp only [List.getElem?_toArray, List.getElem?_cons_succ, List.getElem?_cons_zero]; rfl)
              case step7m16 =>
                go_simp
                refine (Calls.mono HMR.out ?_); rintro e w29 ⟨v29, rfl, hs29, hb29⟩
                obtain ⟨A29, c29, rfl, hr29, _, _⟩ := hs29
                have HR29 := hide hr29
                have LW := hide (below_step LW.out hb29)
                clear hr29 hb29 HMR
                refine hK.out _ _ (LW.out.of_drew) (fun _ => ?_)
                clear hK K
                try simp only [Act.put, List.setIfInBounds_toArray, List.set_cons_zero, List.set_cons_succ]
                refine wpAnyH_ready (rs := [8]) (by kernel_rfl) (by simp) ?_
                refine' (AllReadyH.cons (o := _) ?ho8c17 (fun K hK => ?step8c17) AllReadyH.nil)
                case ho8c17 => (simp only [List.getElem?_toArray, List.getElem?_cons_succ, List.getElem?_cons_zero]; rfl)
                case step8c17 =>
                  go_simp
                  refine (Calls.mono (clean_any A29 c29 _ _ HR29.out HUW.out (by have := HUL.out; omega)) ?_); rintro e w30 ⟨⟨v30, rfl, ho30⟩, hb30⟩
                  have HS30 := hide ho30.sl
                  have LW := hide (below_step LW.out hb30)
                  clear ho30 hb30
                  refine hK.out _ _ (LW.out.of_drew) (fun _ => ?_)
                  clear hK K
                  try simp only [Act.put, List.setIfInBounds_toArray, List.set_cons_zero, List.set_cons_succ]
                  refine wpAnyH_ready (rs := [9]) (by kernel_rfl) (by simp) ?_
                  refine' (AllReadyH.cons (o := _) ?ho9q18 (fun K hK => ?step9q18) AllReadyH.nil)
                  case ho9q18 => (simp only [List.getElem?_toArray, List.getElem?_cons_succ, List.getElem?_cons_zero]; rfl)
                  case step9q18 =>
                    go_simp
                    refine hK.out _ _ (LW.out.of_drew) (fun _ => ?_)
                    clear hK K
                    try simp only [Act.put, List.setIfInBounds_toArray, List.set_cons_zero, List.set_cons_succ]
                    refine wpAnyH_done (by kernel_rfl) ?_ _
                    refine NoPanic.normal ?_
                    go_wp2_with fail
                    go_meet
                    exact ⟨HS30.out, LW.out⟩
    case step4n0 =>
      go_simp
      have hal := below_alloc (Below.refl w3.drew.heap.size w3.drew) (.cells #[.int .i64 m, .int .i64 1, .int .u64 0, .int .u64 (d + 1), .int .i64 0] 28)
      have HT : Hid (ItemsAt (w3.drew.alloc (.cells #[.int .i64 m, .int .i64 1, .int .u64 0, .int .u64 (d + 1), .int .i64 0] 28)) (some ⟨w3.drew.heap.size, 0, none⟩) [T]) := hide (by rw [← HTE.out]; exact RowAt.new_one (cells := It.cells) (y := ⟨m, 1, 0, d + 1, 0⟩) (heap_alloc_new w3.drew _))
      have HL1 : Hid (w3.drew.heap.size < (w3.drew.alloc (.cells #[.int .i64 m, .int .i64 1, .int .u64 0, .int .u64 (d + 1), .int .i64 0] 28)).heap.size) := hide (by simp)
      have LW := hide (below_step LW.out hal)
      obtain ⟨b26, hb26⟩ : ∃ b26, w3.heap.size = b26 := ⟨_, rfl⟩
      obtain ⟨u19, hu19⟩ : ∃ v, (w3.alloc (.cells #[.int .i64 m, .int .i64 1, .int .u64 0, .int .u64 (d + 1), .int .i64 0] 28)).drew = v := ⟨_, rfl⟩
      have HT : Hid (ItemsAt u19 (some ⟨b26, 0, none⟩) [T]) := hide (by rw [← hb26, ← hu19]; exact HT.out)
      have HL1 : Hid (b26 < u19.heap.size) := hide (by rw [← hb26, ← hu19]; exact HL1.out)
      have LW : Hid (Below w3.heap.size w3 u19) := hide (by rw [← hu19]; exact LW.out)
      rw [hb26]
      rw [hu19]
      clear hal hb26 hu19
      refine hK.out _ _ (LW.out.of_drew) (fun _ => ?_)
      clear hK K
      try simp only [Act.put, List.setIfInBounds_toArray, List.set_cons_zero, List.set_cons_succ]
      refine wpAnyH_ready (rs := [0, 5]) (by kernel_rfl) (by simp) ?_
      refine' (AllReadyH.cons (o := _) ?ho0n19 (fun K hK => ?step0n19) (AllReadyH.cons (o := _) ?ho5n19 (fun K hK => ?step5n19) AllReadyH.nil))
      case ho0n19 => (simp only [List.getElem?_toArray, List.getElem?_cons_succ, List.getElem?_cons_zero]; rfl)
      case ho5n19 => (simp only [List.getElem?_toArray, List.getElem?_cons_succ, List.getElem?_cons_zero]; rfl)
      case step0n19 =>
        go_simp
        have HA := hide (own_emptyE svC 1 22 w3.heap.size u19 LW.out.size)
        have hal := below_alloc (Below.refl u19.heap.size u19) (.cells #[] 22)
        have HN1 : Hid ((Value.slice (some ⟨u19.heap.size, 0, none⟩) 0 0).ownBlock ≠ some b26) := hide (ob_ne HL1.out)
        have HL1 := hide (Nat.lt_of_lt_of_le HL1.out hal.size)
        have HT := hide (HT.out.below hal)
        have LW := hide (below_step LW.out hal)
        obtain ⟨e0, he0⟩ : ∃ e0, u19.heap.size = e0 := ⟨_, rfl⟩
        obtain ⟨u20, hu20⟩ : ∃ v, u19.alloc (.cells #[] 22) = v := ⟨_, rfl⟩
        have HA : Hid (OwS w3.heap.size u20 (.slice (some ⟨e0, 0, none⟩) 0 0) []) := hide (by rw [← he0, ← hu20]; exact HA.out)
        have LW : Hid (Below w3.heap.size w3 u20) := hide (by rw [← hu20]; exact LW.out)
        have HT : Hid (ItemsAt u20 (some ⟨b26, 0, none⟩) [T]) := hide (by rw [← hu20]; exact HT.out)
        have HL1 : Hid (b26 < u20.heap.size) := hide (by rw [← hu20]; exact HL1.out)
        have HN1 : Hid ((Value.slice (some ⟨e0, 0, none⟩) 0 0).ownBlock ≠ some b26) := hide (by rw [← he0]; exact HN1.out)
        rw [he0]
        rw [hu20]
        clear hal he0 hu20
        refine hK.out _ _ (LW.out.of_drew) (fun _ => ?_)
        clear hK K
        try simp only [Act.put, List.setIfInBounds_toArray, List.set_cons_zero, List.set_cons_succ]
        refine wpAnyH_ready (rs := [2, 5]) (by kernel_rfl) (by simp) ?_
        refine' (AllReadyH.cons (o := _) ?ho2n20 (fun K hK => ?step2n20) (AllReadyH.cons (o := _) ?ho5n20 (fun K hK => ?step5n20) AllReadyH.nil))
        case ho2n20 => (simp only [List.getElem?_toArray, List.getElem?_cons_succ, List.getElem?_cons_zero]; rfl)
        case ho5n20 => (simp only [List.getElem?_toArray, List.getElem?_cons_succ, List.getElem?_cons_zero]; rfl)
        case step2n20 =>
          refine step_app_ss rfl (.tmp 22) (.tmp 23) rfl rfl w3.heap.size _ [] rfl HA.out A c n R HN.out rfl ((HRW.out.below HB3.out).below LW.out) (by simp; omega) LW.out.size ?_
          intro v24 w24 ho24 hg24 hm24
          have LW2 := hide (LW.out.grown hg24 LW.out.size (fun q hq => (OwnL.lt HA.out q hq).1))
          have hn1 := HN1.out
          have HN1 : Hid (v24.ownBlock ≠ some b26) := hide (ne_moved hm24 hn1 HL1.out)
          have HT := hide (items_grown HT.out hg24 (fun a ha _ => by obtain rfl := Option.some.inj ha; exact hn1))
          have HL1 := hide (Nat.lt_of_lt_of_le HL1.out hg24.size)
          have HA := hide ho24
          have LW := LW2
          clear ho24 hg24 hm24 LW2 hn1
          refine hK.out _ _ (LW.out.of_drew) (fun _ => ?_)
          clear hK K
          try simp only [Act.put, List.setIfInBounds_toArray, List.set_cons_zero, List.set_cons_succ]
          refine wpAnyH_ready (rs := [5]) (by kernel_rfl) (by simp) ?_
          refine' (AllReadyH.cons (o := _) ?ho5n21 (fun K hK => ?step5n21) AllReadyH.nil)
          case ho5n21 => (simp only [List.getElem?_toArray, List.getElem?_cons_succ, List.getElem?_cons_zero]; rfl)
          case step5n21 =>
            go_simp
            have hal := below_alloc (Below.refl w24.heap.size w24) (.cells #[.slice (some ⟨b26, 0, none⟩) 1 1] 22)
            have HS2 : Hid (RowAt svC 1 (w24.alloc (.cells #[.slice (some ⟨b26, 0, none⟩) 1 1] 22)) (some ⟨w24.heap.size, 0, none⟩) [⟨some ⟨b26, 0, none⟩, 1, [T]⟩]) := hide (RowAt.new_one (cells := svC) (y := ⟨some ⟨b26, 0, none⟩, 1, [T]⟩) (heap_alloc_new w24 _))
            have HL2 : Hid (w24.heap.size < (w24.alloc (.cells #[.slice (some ⟨b26, 0, none⟩) 1 1] 22)).heap.size) := hide (by simp)
            have HT := hide (HT.out.below hal)
            have HL1 := hide (Nat.lt_of_lt_of_le HL1.out hal.size)
            have HN2 := hide (fun e => by have := (OwnL.lt HA.out w24.heap.size e).2; omega : Value.ownBlock v24 ≠ some w24.heap.size)
            have HA := hide (OwnL.below HA.out hal)
            have LW := hide (below_step LW.out hal)
            obtain ⟨b27, hb27⟩ : ∃ b27, w24.heap.size = b27 := ⟨_, rfl⟩
            obtain ⟨u22, hu22⟩ : ∃ v, w24.alloc (.cells #[.slice (some ⟨b26, 0, none⟩) 1 1] 22) = v := ⟨_, rfl⟩
            have HS2 : Hid (RowAt svC 1 u22 (some ⟨b27, 0, none⟩) [⟨some ⟨b26, 0, none⟩, 1, [T]⟩]) := hide (by rw [← hb27, ← hu22]; exact HS2.out)
            have HL2 : Hid (b27 < u22.heap.size) := hide (by rw [← hb27, ← hu22]; exact HL2.out)
            have LW : Hid (Below w3.heap.size w3 u22) := hide (by rw [← hu22]; exact LW.out)
            have HT : Hid (ItemsAt u22 (some ⟨b26, 0, none⟩) [T]) := hide (by rw [← hu22]; exact HT.out)
            have HL1 : Hid (b26 < u22.heap.size) := hide (by rw [← hu22]; exact HL1.out)
            have HA : Hid (OwS w3.heap.size u22 v24 ([] ++ R)) := hide (by rw [← hu22]; exact HA.out)
            have HN2 : Hid (Value.ownBlock v24 ≠ some b27) := hide (by rw [← hb27]; exact HN2.out)
            rw [hb27]
            rw [hu22]
            clear hal hb27 hu22
            refine hK.out _ _ (LW.out.of_drew) (fun _ => ?_)
            clear hK K
            try simp only [Act.put, List.setIfInBounds_toArray, List.set_cons_zero, List.set_cons_succ]
            refine wpAnyH_ready (rs := [6]) (by kernel_rfl) (by simp) ?_
            refine' (AllReadyH.cons (o := _) ?ho6n22 (fun K hK => ?step6n22) AllReadyH.nil)
            case ho6n22 => (simp only [List.getElem?_toArray, List.getElem?_cons_succ, List.getElem?_cons_zero]; rfl)
            case step6n22 =>
              refine step_app_ss rfl (.tmp 24) (.tmp 27) rfl rfl w3.heap.size _ ([] ++ R) rfl HA.out (some ⟨b27, 0, none⟩) 1 1 [⟨some ⟨b26, 0, none⟩, 1, [T]⟩] rfl rfl HS2.out (by rw [List.nil_append, HN.out]; omega) LW.out.size ?_
              intro v28 w28 ho28 hg28 hm28
              have LW2 := hide (LW.out.grown hg28 LW.out.size (fun q hq => (OwnL.lt HA.out q hq).1))
              have HT28 := hide (items_grown HT.out hg28 (fun a ha _ => by obtain rfl := Option.some.inj ha; exact HN1.out))
              obtain ⟨A28, c28, hv28, hr28, _, _, _⟩ := OwnL.row (cells := svC) (fun _ => rfl) ho28
              rw [List.nil_append] at hr28 hv28
              have hl28 : (R ++ [(⟨some ⟨b26, 0, none⟩, 1, [T]⟩ : Sv It)]).length = n + 1 := by rw [List.length_append, HN.out]; rfl
              rw [hl28] at hv28
              subst hv28
              have hmr := mrows_any A28 c28 (R ++ [⟨some ⟨b26, 0, none⟩, 1, [T]⟩]) w28 hr28 (rd_more (fun r hr => ⟨((HRD.out r hr).1.below HB3.out).below LW2.out, (HRD.out r hr).2⟩) HT28.out) (by rw [List.length_append, HN.out]; simp; omega) (by rw [ls_more]; have := HLM.out; omega)
              rw [ls_more, hl28] at hmr
              have HMR := hide hmr
              have LW := LW2
              clear ho28 hg28 hm28 hr28 hmr LW2 hl28
              refine hK.out _ _ (LW.out.of_drew) (fun _ => ?_)
              clear hK K
              try simp only [Act.put, List.setIfInBounds_toArray, List.set_cons_zero, List.set_cons_succ]
              refine wpAnyH_ready (rs := [7]) (by kernel_rfl) (by simp) ?_
              refine' (AllReadyH.cons (o := _) ?ho7m23 (fun K hK => ?step7m23) AllReadyH.nil)
              case ho7m23 => (simp only [List.getElem?_toArray, List.getElem?_cons_succ, List.getElem?_cons_zero]; rfl)
              case step7m23 =>
                go_simp
                refine (Calls.mono HMR.out ?_); rintro e w29 ⟨v29, rfl, hs29, hb29⟩
                obtain ⟨A29, c29, rfl, hr29, _, _⟩ := hs29
                have HR29 := hide hr29
                have LW := hide (below_step LW.out hb29)
                clear hr29 hb29 HMR
                refine hK.out _ _ (LW.out.of_drew) (fun _ => ?_)
                clear hK K
                try simp only [Act.put, List.setIfInBounds_toArray, List.set_cons_zero, List.set_cons_succ]
                refine wpAnyH_ready (rs := [8]) (by kernel_rfl) (by simp) ?_
                refine' (AllReadyH.cons (o := _) ?ho8c24 (fun K hK => ?step8c24) AllReadyH.nil)
                case ho8c24 => (simp only [List.getElem?_toArray, List.getElem?_cons_succ, List.getElem?_cons_zero]; rfl)
                case step8c24 =>
                  go_simp
                  refine (Calls.mono (clean_any A29 c29 _ _ HR29.out HUW.out (by have := HUL.out; omega)) ?_); rintro e w30 ⟨⟨v30, rfl, ho30⟩, hb30⟩
                  have HS30 := hide ho30.sl
                  have LW := hide (below_step LW.out hb30)
                  clear ho30 hb30
                  refine hK.out _ _ (LW.out.of_drew) (fun _ => ?_)
                  clear hK K
                  try simp only [Act.put, List.setIfInBounds_toArray, List.set_cons_zero, List.set_cons_succ]
                  refine wpAnyH_ready (rs := [9]) (by kernel_rfl) (by simp) ?_
                  refine' (AllReadyH.cons (o := _) ?ho9q25 (fun K hK => ?step9q25) AllReadyH.nil)
                  case ho9q25 => (simp only [List.getElem?_toArray, List.getElem?_cons_succ, List.getElem?_cons_zero]; rfl)
                  case step9q25 =>
                    go_simp
                    refine hK.out _ _ (LW.out.of_drew) (fun _ => ?_)
                    clear hK K
                    try simp only [Act.put, List.setIfInBounds_toArray, List.set_cons_zero, List.set_cons_succ]
                    refine wpAnyH_done (by kernel_rfl) ?_ _
                    refine NoPanic.normal ?_
                    go_wp2_with fail
                    go_meet
                    exact ⟨HS30.out, LW.out⟩
        case step5n20 =>
          go_simp
          have hal := below_alloc (Below.refl u20.heap.size u20) (.cells #[.slice (some ⟨b26, 0, none⟩) 1 1] 22)
          have HS2 : Hid (RowAt svC 1 (u20.alloc (.cells #[.slice (some ⟨b26, 0, none⟩) 1 1] 22)) (some ⟨u20.heap.size, 0, none⟩) [⟨some ⟨b26, 0, none⟩, 1, [T]⟩]) := hide (RowAt.new_one (cells := svC) (y := ⟨some ⟨b26, 0, none⟩, 1, [T]⟩) (heap_alloc_new u20 _))
          have HL2 : Hid (u20.heap.size < (u20.alloc (.cells #[.slice (some ⟨b26, 0, none⟩) 1 1] 22)).heap.size) := hide (by simp)
          have HT := hide (HT.out.below hal)
          have HL1 := hide (Nat.lt_of_lt_of_le HL1.out hal.size)
          have HN2 := hide (fun e => by have := (OwnL.lt HA.out u20.heap.size e).2; omega : Value.ownBlock (.slice (some ⟨e0, 0, none⟩) 0 0) ≠ some u20.heap.size)
          have HA := hide (OwnL.below HA.out hal)
          have LW := hide (below_step LW.out hal)
          obtain ⟨b27, hb27⟩ : ∃ b27, u20.heap.size = b27 := ⟨_, rfl⟩
          obtain ⟨u26, hu26⟩ : ∃ v, u20.alloc (.cells #[.slice (some ⟨b26, 0, none⟩) 1 1] 22) = v := ⟨_, rfl⟩
          have HS2 : Hid (RowAt svC 1 u26 (some ⟨b27, 0, none⟩) [⟨some ⟨b26, 0, none⟩, 1, [T]⟩]) := hide (by rw [← hb27, ← hu26]; exact HS2.out)
          have HL2 : Hid (b27 < u26.heap.size) := hide (by rw [← hb27, ← hu26]; exact HL2.out)
          have LW : Hid (Below w3.heap.size w3 u26) := hide (by rw [← hu26]; exact LW.out)
          have HT : Hid (ItemsAt u26 (some ⟨b26, 0, none⟩) [T]) := hide (by rw [← hu26]; exact HT.out)
          have HL1 : Hid (b26 < u26.heap.size) := hide (by rw [← hu26]; exact HL1.out)
          have HA : Hid (OwS w3.heap.size u26 (.slice (some ⟨e0, 0, none⟩) 0 0) []) := hide (by rw [← hu26]; exact HA.out)
          have HN2 : Hid (Value.ownBlock (.slice (some ⟨e0, 0, none⟩) 0 0) ≠ some b27) := hide (by rw [← hb27]; exact HN2.out)
          rw [hb27]
          rw [hu26]
          clear hal hb27 hu26
          refine hK.out _ _ (LW.out.of_drew) (fun _ => ?_)
          clear hK K
          try simp only [Act.put, List.setIfInBounds_toArray, List.set_cons_zero, List.set_cons_succ]
          refine wpAnyH_ready (rs := [2]) (by kernel_rfl) (by simp) ?_
          refine' (AllReadyH.cons (o := _) ?ho2n26 (fun K hK => ?step2n26) AllReadyH.nil)
          case ho2n26 => (simp only [List.getElem?_toArray, List.getElem?_cons_succ, List.getElem?_cons_zero]; rfl)
          case step2n26 =>
            refine step_app_ss rfl (.tmp 22) (.tmp 23) rfl rfl w3.heap.size _ [] rfl HA.out A c n R HN.out rfl ((HRW.out.below HB3.out).below LW.out) (by simp; omega) LW.out.size ?_
            intro v24 w24 ho24 hg24 hm24
            have LW2 := hide (LW.out.grown hg24 LW.out.size (fun q hq => (OwnL.lt HA.out q hq).1))
            have hn1 := HN1.out
            have HN1 : Hid (v24.ownBlock ≠ some b26) := hide (ne_moved hm24 hn1 HL1.out)
            have HT := hide (items_grown HT.out hg24 (fun a ha _ => by obtain rfl := Option.some.inj ha; exact hn1))
            have HL1 := hide (Nat.lt_of_lt_of_le HL1.out hg24.size)
            have hn2 := HN2.out
            have HN2 : Hid (v24.ownBlock ≠ some b27) := hide (ne_moved hm24 hn2 HL2.out)
            have HS2 := hide (row_grown HS2.out hg24 hn2)
            have HL2 := hide (Nat.lt_of_lt_of_le HL2.out hg24.size)
            have HA := hide ho24
            have LW := LW2
            clear ho24 hg24 hm24 LW2 hn1 hn2
            refine hK.out _ _ (LW.out.of_drew) (fun _ => ?_)
            clear hK K
            try simp only [Act.put, List.setIfInBounds_toArray, List.set_cons_zero, List.set_cons_succ]
            refine wpAnyH_ready (rs := [6]) (by kernel_rfl) (by simp) ?_
            refine' (AllReadyH.cons (o := _) ?ho6n27 (fun K hK => ?step6n27) AllReadyH.nil)
            case ho6n27 => (simp only [List.getElem?_toArray, List.getElem?_cons_succ, List.getElem?_cons_zero]; rfl)
            case step6n27 =>
              refine step_app_ss rfl (.tmp 24) (.tmp 27) rfl rfl w3.heap.size _ ([] ++ R) rfl HA.out (some ⟨b27, 0, none⟩) 1 1 [⟨some ⟨b26, 0, none⟩, 1, [T]⟩] rfl rfl HS2.out (by rw [List.nil_append, HN.out]; omega) LW.out.size ?_
              intro v28 w28 ho28 hg28 hm28
              have LW2 := hide (LW.out.grown hg28 LW.out.size (fun q hq => (OwnL.lt HA.out q hq).1))
              have HT28 := hide (items_grown HT.out hg28 (fun a ha _ => by obtain rfl := Option.some.inj ha; exact HN1.out))
              obtain ⟨A28, c28, hv28, hr28, _, _, _⟩ := OwnL.row (cells := svC) (fun _ => rfl) ho28
              rw [List.nil_append] at hr28 hv28
              have hl28 : (R ++ [(⟨some ⟨b26, 0, none⟩, 1, [T]⟩ : Sv It)]).length = n + 1 := by rw [List.length_append, HN.out]; rfl
              rw [hl28] at hv28
              subst hv28
              have hmr := mrows_any A28 c28 (R ++ [⟨some ⟨b26, 0, none⟩, 1, [T]⟩]) w28 hr28 (rd_more (fun r hr => ⟨((HRD.out r hr).1.below HB3.out).below LW2.out, (HRD.out r hr).2⟩) HT28.out) (by rw [List.length_append, HN.out]; simp; omega) (by rw [ls_more]; have := HLM.out; omega)
              rw [ls_more, hl28] at hmr
              have HMR := hide hmr
              have LW := LW2
              clear ho28 hg28 hm28 hr28 hmr LW2 hl28
              refine hK.out _ _ (LW.out.of_drew) (fun _ => ?_)
              clear hK K
              try simp only [Act.put, List.setIfInBounds_toArray, List.set_cons_zero, List.set_cons_succ]
              refine wpAnyH_ready (rs := [7]) (by kernel_rfl) (by simp) ?_
              refine' (AllReadyH.cons (o := _) ?ho7m28 (fun K hK => ?step7m28) AllReadyH.nil)
              case ho7m28 => (simp only [List.getElem?_toArray, List.getElem?_cons_succ, List.getElem?_cons_zero]; rfl)
              case step7m28 =>
                go_simp
                refine (Calls.mono HMR.out ?_); rintro e w29 ⟨v29, rfl, hs29, hb29⟩
                obtain ⟨A29, c29, rfl, hr29, _, _⟩ := hs29
                have HR29 := hide hr29
                have LW := hide (below_step LW.out hb29)
                clear hr29 hb29 HMR
                refine hK.out _ _ (LW.out.of_drew) (fun _ => ?_)
                clear hK K
                try simp only [Act.put, List.setIfInBounds_toArray, List.set_cons_zero, List.set_cons_succ]
                refine wpAnyH_ready (rs := [8]) (by kernel_rfl) (by simp) ?_
                refine' (AllReadyH.cons (o := _) ?ho8c29 (fun K hK => ?step8c29) AllReadyH.nil)
                case ho8c29 => (simp only [List.getElem?_toArray, List.getElem?_cons_succ, List.getElem?_cons_zero]; rfl)
                case step8c29 =>
                  go_simp
                  refine (Calls.mono (clean_any A29 c29 _ _ HR29.out HUW.out (by have := HUL.out; omega)) ?_); rintro e w30 ⟨⟨v30, rfl, ho30⟩, hb30⟩
                  have HS30 := hide ho30.sl
                  have LW := hide (below_step LW.out hb30)
                  clear ho30 hb30
                  refine hK.out _ _ (LW.out.of_drew) (fun _ => ?_)
                  clear hK K
                  try simp only [Act.put, List.setIfInBounds_toArray, List.set_cons_zero, List.set_cons_succ]
                  refine wpAnyH_ready (rs := [9]) (by kernel_rfl) (by simp) ?_
                  refine' (AllReadyH.cons (o := _) ?ho9q30 (fun K hK => ?step9q30) AllReadyH.nil)
                  case ho9q30 => (simp only [List.getElem?_toArray, List.getElem?_cons_succ, List.getElem?_cons_zero]; rfl)
                  case step9q30 =>
                    go_simp
                    refine hK.out _ _ (LW.out.of_drew) (fun _ => ?_)
                    clear hK K
                    try simp only [Act.put, List.setIfInBounds_toArray, List.set_cons_zero, List.set_cons_succ]
                    refine wpAnyH_done (by kernel_rfl) ?_ _
                    refine NoPanic.normal ?_
                    go_wp2_with fail
                    go_meet
                    exact ⟨HS30.out, LW.out⟩
      case step5n19 =>
        go_simp
        have hal := below_alloc (Below.refl u19.heap.size u19) (.cells #[.slice (some ⟨b26, 0, none⟩) 1 1] 22)
        have HS2 : Hid (RowAt svC 1 (u19.alloc (.cells #[.slice (some ⟨b26, 0, none⟩) 1 1] 22)) (some ⟨u19.heap.size, 0, none⟩) [⟨some ⟨b26, 0, none⟩, 1, [T]⟩]) := hide (RowAt.new_one (cells := svC) (y := ⟨some ⟨b26, 0, none⟩, 1, [T]⟩) (heap_alloc_new u19 _))
        have HL2 : Hid (u19.heap.size < (u19.alloc (.cells #[.slice (some ⟨b26, 0, none⟩) 1 1] 22)).heap.size) := hide (by simp)
        have HT := hide (HT.out.below hal)
        have HL1 := hide (Nat.lt_of_lt_of_le HL1.out hal.size)
        have LW := hide (below_step LW.out hal)
        obtain ⟨b27, hb27⟩ : ∃ b27, u19.heap.size = b27 := ⟨_, rfl⟩
        obtain ⟨u31, hu31⟩ : ∃ v, u19.alloc (.cells #[.slice (some ⟨b26, 0, none⟩) 1 1] 22) = v := ⟨_, rfl⟩
        have HS2 : Hid (RowAt svC 1 u31 (some ⟨b27, 0, none⟩) [⟨some ⟨b26, 0, none⟩, 1, [T]⟩]) := hide (by rw [← hb27, ← hu31]; exact HS2.out)
        have HL2 : Hid (b27 < u31.heap.size) := hide (by rw [← hb27, ← hu31]; exact HL2.out)
        have LW : Hid (Below w3.heap.size w3 u31) := hide (by rw [← hu31]; exact LW.out)
        have HT : Hid (ItemsAt u31 (some ⟨b26, 0, none⟩) [T]) := hide (by rw [← hu31]; exact HT.out)
        have HL1 : Hid (b26 < u31.heap.size) := hide (by rw [← hu31]; exact HL1.out)
        rw [hb27]
        rw [hu31]
        clear hal hb27 hu31
        refine hK.out _ _ (LW.out.of_drew) (fun _ => ?_)
        clear hK K
        try simp only [Act.put, List.setIfInBounds_toArray, List.set_cons_zero, List.set_cons_succ]
        refine wpAnyH_ready (rs := [0]) (by kernel_rfl) (by simp) ?_
        refine' (AllReadyH.cons (o := _) ?ho0n31 (fun K hK => ?step0n31) AllReadyH.nil)
        case ho0n31 => (simp only [List.getElem?_toArray, List.getElem?_cons_succ, List.getElem?_cons_zero]; rfl)
        case step0n31 =>
          go_simp
          have HA := hide (own_emptyE svC 1 22 w3.heap.size u31 LW.out.size)
          have hal := below_alloc (Below.refl u31.heap.size u31) (.cells #[] 22)
          have HN1 : Hid ((Value.slice (some ⟨u31.heap.size, 0, none⟩) 0 0).ownBlock ≠ some b26) := hide (ob_ne HL1.out)
          have HL1 := hide (Nat.lt_of_lt_of_le HL1.out hal.size)
          have HT := hide (HT.out.below hal)
          have HN2 : Hid ((Value.slice (some ⟨u31.heap.size, 0, none⟩) 0 0).ownBlock ≠ some b27) := hide (ob_ne HL2.out)
          have HL2 := hide (Nat.lt_of_lt_of_le HL2.out hal.size)
          have HS2 := hide (RowAt.below HS2.out hal)
          have LW := hide (below_step LW.out hal)
          obtain ⟨e0, he0⟩ : ∃ e0, u31.heap.size = e0 := ⟨_, rfl⟩
          obtain ⟨u32, hu32⟩ : ∃ v, u31.alloc (.cells #[] 22) = v := ⟨_, rfl⟩
          have HA : Hid (OwS w3.heap.size u32 (.slice (some ⟨e0, 0, none⟩) 0 0) []) := hide (by rw [← he0, ← hu32]; exact HA.out)
          have LW : Hid (Below w3.heap.size w3 u32) := hide (by rw [← hu32]; exact LW.out)
          have HT : Hid (ItemsAt u32 (some ⟨b26, 0, none⟩) [T]) := hide (by rw [← hu32]; exact HT.out)
          have HL1 : Hid (b26 < u32.heap.size) := hide (by rw [← hu32]; exact HL1.out)
          have HN1 : Hid ((Value.slice (some ⟨e0, 0, none⟩) 0 0).ownBlock ≠ some b26) := hide (by rw [← he0]; exact HN1.out)
          have HS2 : Hid (RowAt svC 1 u32 (some ⟨b27, 0, none⟩) [⟨some ⟨b26, 0, none⟩, 1, [T]⟩]) := hide (by rw [← hu32]; exact HS2.out)
          have HL2 : Hid (b27 < u32.heap.size) := hide (by rw [← hu32]; exact HL2.out)
          have HN2 : Hid ((Value.slice (some ⟨e0, 0, none⟩) 0 0).ownBlock ≠ some b27) := hide (by rw [← he0]; exact HN2.out)
          rw [he0]
          rw [hu32]
          clear hal he0 hu32
          refine hK.out _ _ (LW.out.of_drew) (fun _ => ?_)
          clear hK K
          try simp only [Act.put, List.setIfInBounds_toArray, List.set_cons_zero, List.set_cons_succ]
          refine wpAnyH_ready (rs := [2]) (by kernel_rfl) (by simp) ?_
          refine' (AllReadyH.cons (o := _) ?ho2n32 (fun K hK => ?step2n32) AllReadyH.nil)
          case ho2n32 => (simp only [List.getElem?_toArray, List.getElem?_cons_succ, List.getElem?_cons_zero]; rfl)
          case step2n32 =>
            refine step_app_ss rfl (.tmp 22) (.tmp 23) rfl rfl w3.heap.size _ [] rfl HA.out A c n R HN.out rfl ((HRW.out.below HB3.out).below LW.out) (by simp; omega) LW.out.size ?_
            intro v24 w24 ho24 hg24 hm24
            have LW2 := hide (LW.out.grown hg24 LW.out.size (fun q hq => (OwnL.lt HA.out q hq).1))
            have hn1 := HN1.out
            have HN1 : Hid (v24.ownBlock ≠ some b26) := hide (ne_moved hm24 hn1 HL1.out)
            have HT := hide (items_grown HT.out hg24 (fun a ha _ => by obtain rfl := Option.some.inj ha; exact hn1))
            have HL1 := hide (Nat.lt_of_lt_of_le HL1.out hg24.size)
            have hn2 := HN2.out
            have HN2 : Hid (v24.ownBlock ≠ some b27) := hide (ne_moved hm24 hn2 HL2.out)
            have HS2 := hide (row_grown HS2.out hg24 hn2)
            have HL2 := hide (Nat.lt_of_lt_of_le HL2.out hg24.size)
            have HA := hide ho24
            have LW := LW2
            clear ho24 hg24 hm24 LW2 hn1 hn2
            refine hK.out _ _ (LW.out.of_drew) (fun _ => ?_)
            clear hK K
            try simp only [Act.put, List.setIfInBounds_toArray, List.set_cons_zero, List.set_cons_succ]
            refine wpAnyH_ready (rs := [6]) (by kernel_rfl) (by simp) ?_
            refine' (AllReadyH.cons (o := _) ?ho6n33 (fun K hK => ?step6n33) AllReadyH.nil)
            case ho6n33 => (simp only [List.getElem?_toArray, List.getElem?_cons_succ, List.getElem?_cons_zero]; rfl)
            case step6n33 =>
              refine step_app_ss rfl (.tmp 24) (.tmp 27) rfl rfl w3.heap.size _ ([] ++ R) rfl HA.out (some ⟨b27, 0, none⟩) 1 1 [⟨some ⟨b26, 0, none⟩, 1, [T]⟩] rfl rfl HS2.out (by rw [List.nil_append, HN.out]; omega) LW.out.size ?_
              intro v28 w28 ho28 hg28 hm28
              have LW2 := hide (LW.out.grown hg28 LW.out.size (fun q hq => (OwnL.lt HA.out q hq).1))
              have HT28 := hide (items_grown HT.out hg28 (fun a ha _ => by obtain rfl := Option.some.inj ha; exact HN1.out))
              obtain ⟨A28, c28, hv28, hr28, _, _, _⟩ := OwnL.row (cells := svC) (fun _ => rfl) ho28
              rw [List.nil_append] at hr28 hv28
              have hl28 : (R ++ [(⟨some ⟨b26, 0, none⟩, 1, [T]⟩ : Sv It)]).length = n + 1 := by rw [List.length_append, HN.out]; rfl
              rw [hl28] at hv28
              subst hv28
              have hmr := mrows_any A28 c28 (R ++ [⟨some ⟨b26, 0, none⟩, 1, [T]⟩]) w28 hr28 (rd_more (fun r hr => ⟨((HRD.out r hr).1.below HB3.out).below LW2.out, (HRD.out r hr).2⟩) HT28.out) (by rw [List.length_append, HN.out]; simp; omega) (by rw [ls_more]; have := HLM.out; omega)
              rw [ls_more, hl28] at hmr
              have HMR := hide hmr
              have LW := LW2
              clear ho28 hg28 hm28 hr28 hmr LW2 hl28
              refine hK.out _ _ (LW.out.of_drew) (fun _ => ?_)
              clear hK K
              try simp only [Act.put, List.setIfInBounds_toArray, List.set_cons_zero, List.set_cons_succ]
              refine wpAnyH_ready (rs := [7]) (by kernel_rfl) (by simp) ?_
              refine' (AllReadyH.cons (o := _) ?ho7m34 (fun K hK => ?step7m34) AllReadyH.nil)
              case ho7m34 => (simp only [List.getElem?_toArray, List.getElem?_cons_succ, List.getElem?_cons_zero]; rfl)
              case step7m34 =>
                go_simp
                refine (Calls.mono HMR.out ?_); rintro e w29 ⟨v29, rfl, hs29, hb29⟩
                obtain ⟨A29, c29, rfl, hr29, _, _⟩ := hs29
                have HR29 := hide hr29
                have LW := hide (below_step LW.out hb29)
                clear hr29 hb29 HMR
                refine hK.out _ _ (LW.out.of_drew) (fun _ => ?_)
                clear hK K
                try simp only [Act.put, List.setIfInBounds_toArray, List.set_cons_zero, List.set_cons_succ]
                refine wpAnyH_ready (rs := [8]) (by kernel_rfl) (by simp) ?_
                refine' (AllReadyH.cons (o := _) ?ho8c35 (fun K hK => ?step8c35) AllReadyH.nil)
                case ho8c35 => (simp only [List.getElem?_toArray, List.getElem?_cons_succ, List.getElem?_cons_zero]; rfl)
                case step8c35 =>
                  go_simp
                  refine (Calls.mono (clean_any A29 c29 _ _ HR29.out HUW.out (by have := HUL.out; omega)) ?_); rintro e w30 ⟨⟨v30, rfl, ho30⟩, hb30⟩
                  have HS30 := hide ho30.sl
                  have LW := hide (below_step LW.out hb30)
                  clear ho30 hb30
                  refine hK.out _ _ (LW.out.of_drew) (fun _ => ?_)
                  clear hK K
                  try simp only [Act.put, List.setIfInBounds_toArray, List.set_cons_zero, List.set_cons_succ]
                  refine wpAnyH_ready (rs := [9]) (by kernel_rfl) (by simp) ?_
                  refine' (AllReadyH.cons (o := _) ?ho9q36 (fun K hK => ?step9q36) AllReadyH.nil)
                  case ho9q36 => (simp only [List.getElem?_toArray, List.getElem?_cons_succ, List.getElem?_cons_zero]; rfl)
                  case step9q36 =>
                    go_simp
                    refine hK.out _ _ (LW.out.of_drew) (fun _ => ?_)
                    clear hK K
                    try simp only [Act.put, List.setIfInBounds_toArray, List.set_cons_zero, List.set_cons_succ]
                    refine wpAnyH_done (by kernel_rfl) ?_ _
                    refine NoPanic.normal ?_
                    go_wp2_with fail
                    go_meet
                    exact ⟨HS30.out, LW.out⟩
  case rest =>
    obtain ⟨hsl, hbc⟩ := hcut
    -- REST
    have hris : ∀ l ∈ lsR R, Rising l := by
      intro l hl
      obtain ⟨r, hr, rfl⟩ := List.mem_map.1 hl
      exact (HALL.out r hr).1
    have hU := mrgG_flat hris
    have hU' := mrgG_flat (R := lsR R ++ [[T]]) (by
      intro l hl
      rcases List.mem_append.1 hl with h | h
      · exact hris l h
      · rw [List.mem_singleton.1 h]
        exact rising_1 T)
    rw [List.flatten_append, show [[T]].flatten = [T] from rfl] at hU'
    have hTk : T.k = 1 ∧ T.s = m ∧ T.v = d + 1 ∧ T.t = 0 := by rw [← HTE.out]; exact ⟨rfl, rfl, rfl, rfl⟩
    have hflat : ∀ y ∈ (lsR R).flatten, y.wf ∧ It.good y := by
      intro x hx
      rw [List.mem_flatten] at hx
      obtain ⟨l, hl, hx⟩ := hx
      obtain ⟨r, hr, rfl⟩ := List.mem_map.1 hl
      exact (HALL.out r hr).2.2 x hx
    have hv : ∀ y ∈ (lsR R).flatten ++ [T], 0 ≤ y.v ∧ (y.k = 1 ∨ y.k = 2) := by
      intro y hy
      rcases List.mem_append.1 hy with h | h
      · have := (hflat y h).2
        unfold It.good at this
        omega
      · rw [List.mem_singleton.1 h]
        omega
    have hzz : ∀ y ∈ (lsR R).flatten ++ [T], y.k = 1 → y.t = 0 := by
      intro y hy hk
      rcases List.mem_append.1 hy with h | h
      · have := (hflat y h).2
        unfold It.good at this
        omega
      · rw [List.mem_singleton.1 h]
        exact hTk.2.2.2
    have hff := hides hU hU' hTk.1 hv
    have hfl := hides_len hU hU' hTk.1 hv hzz
    have hlen : lenR (lsR R) ≤ 320 := by
      have := len_RH R (fun r hr => (HALL.out r hr).2.1)
      rw [HN.out] at this
      omega
    have hUl := mrgG_len (lenR (lsR R)) (lsR R) []
    have hUw : ∀ x ∈ mrgG (lenR (lsR R)) (lsR R) [], x.wf := fun x hx => (hflat x ((hU.mem x).1 hx).1).1
    have hcl := clean_len (mrgG (lenR (lsR R)) (lsR R) [])
    have hbw := below_step HB3.out hbc
    have hmr := mrows_any A c R wc (HRW.out.below hbw) (fun r hr => ⟨(HRD.out r hr).1.below hbw, (HRD.out r hr).2⟩) (by rw [HN.out]; omega) (by omega)
    rw [HN.out] at hmr
    have HMR := hide hmr
    have HUW := hide hUw
    have HTK := hide hTk
    obtain ⟨A9, c9, rfl, hr9, _, _⟩ := hsl
    have HR9 := hide hr9
    have HBW := hide hbw
    have hgc := (hbc.block gt (Array.getElem?_eq_some_iff.1 HG3.out).1).trans HG3.out
    have HGC := hide hgc
    have hUl2 : (mrgG (lenR (lsR R)) (lsR R) []).length ≤ 320 := by rw [List.length_nil] at hUl; omega
    generalize mrgG (lenR (lsR R)) (lsR R) [] = U at *
    generalize cleanL (mrgG (lenR (lsR R ++ [[T]])) (lsR R ++ [[T]]) []) = W at *
    clear hris hU hU' hTk hflat hv hzz hmr hUw hr9 hbw hgc HRD HRW HALL HG3 HB3 hbc hlen
    clear hUl
    go_wp2_with fail
    refine (Calls.mono HMR.out ?_); rintro e w5 ⟨v5, rfl, hs5, hb5⟩
    obtain ⟨A5, c5, rfl, hr5, _, _⟩ := hs5
    have HR5 := hide hr5
    have HB5 := hide hb5
    clear hr5 hb5 HMR
    go_wp2_with fail
    refine (Calls.mono (clean_any A5 c5 U _ HR5.out HUW.out (by omega)) ?_); rintro e w6 ⟨⟨v6, rfl, ho6⟩, hb6⟩
    obtain ⟨A6, c6, rfl, hr6, _, _⟩ := ho6.sl
    have HR6 := hide hr6
    have HB56 := hide (below_step HB5.out hb6)
    have HW6 := hide (HR9.out.below HB56.out)
    have HG6 := hide ((HB56.out.block gt (Array.getElem?_eq_some_iff.1 HGC.out).1).trans HGC.out)
    have HBT := hide (below_step HB2.out (below_step HBW.out HB56.out))
    generalize cleanL U = N at *
    clear ho6 hb6 hr6 HR5 HB5 HR9 HGC HB56 HUW HBW
    have HCT : Hid (∀ V : World, Below w6.heap.size w6 V → gt < V.heap.size ∧ V.cell? ⟨gt, 0, none⟩ = some (.int .i64 m) ∧ V.cell? ⟨gt, 3, none⟩ = some (.int .u64 (d + 1))) := hide (fun V hV => by
      obtain ⟨l, g0, g1, g2, g3, _⟩ := res5 HG6.out
      exact ⟨Nat.lt_of_lt_of_le l hV.size, (hV.cell (p := ⟨gt, _, none⟩) l).trans g0, (hV.cell (p := ⟨gt, _, none⟩) l).trans g3⟩)
    have HFF := hide hff
    have hNl : N.length ≤ 320 := by omega
    have hWl : W.length ≤ 321 := by omega
    clear hff HG6
    go_wp2_with fail
    go_loopw [11, 12] (fun kk i wr => ∃ (i' k : Nat), kk = .int .i64 k ∧ i = .int .i64 i' ∧ i' ≤ N.length ∧ k ≤ W.length ∧ (W.drop k).filter (fun x => !tombS T x) = (N.drop i').filter (fun x => !skipN T x) ∧ Below w6.heap.size w6 wr) (fun _ i _ => N.length - (intOf i).toNat)
    case atStart => exact ⟨0, 0, rfl, rfl, by omega, by omega, HFF.out, Below.refl _ _⟩
    case round =>
      clear HFF
      obtain ⟨i', k, rfl, rfl, hi', hkW, heq, hb⟩ := hrel
      by_cases hiN : i' < N.length
      · obtain ⟨bn, on, hAn, hbn, n0, n1, n2, n3, n4⟩ := ItemsAt.item HR6.out hb hiN
        subst hAn
        obtain ⟨x, hx⟩ : ∃ x, N[i'] = x := ⟨_, rfl⟩
        rw [hx] at n0 n1 n2 n3 n4
        have HNX := hide hx
        have hbnw : bn < wr.heap.size := Nat.lt_of_lt_of_le hbn hb.size
        have hiI : (i' : Int) < (N.length : Int) := by omega
        obtain ⟨hgl, t0, t3⟩ := HCT.out wr hb
        have hglne : gt ≠ wr.heap.size := by omega
        have HB := hide hb
        have HB1 := hide (below_step hb (below_alloc (Below.refl wr.heap.size wr) (.cells #[.int .i64 x.s, .int .i64 x.k, .int .u64 x.t, .int .u64 x.v, .int .i64 x.x] 28)))
        clear hb hx
        by_cases hs : x.s = m
        · have hs1 : (x.s == m) = true := beq_iff_eq.2 hs
          by_cases hk1 : x.k = 1
          · have hk2 : (x.k == 1) = true := beq_iff_eq.2 hk1
            have d1 : decide (x.s = m) = true := decide_eq_true hs
            have d2 : decide (x.k = 1) = true := decide_eq_true hk1
            clear hs hk1
            have HSK : Hid (skipN T x = true) := hide (by unfold skipN; rw [HTK.out.2.1, HTK.out.2.2.1]; rw [d1, d2]; rfl)
            have HE := hide (skip_true hiN HNX.out heq HSK.out)
            clear heq d1 d2
            go_wp2_with fail
            go_roundw
            case rel => exact ⟨i' + 1, k, rfl, by go_num, by omega, hkW, HE.out, HB1.out⟩
            case measure => (simp [intOf] <;> omega)
          · have hk2 : (x.k == 1) = false := beq_eq_false_iff_ne.2 hk1
            have d1 : decide (x.s = m) = true := decide_eq_true hs
            have d2 : decide (x.k = 1) = false := decide_eq_false hk1
            clear hs hk1
            by_cases hv : x.v ≤ d + 1
            · have d3 : decide (x.v ≤ d + 1) = true := decide_eq_true hv
              have HSK : Hid (skipN T x = true) := hide (by unfold skipN; rw [HTK.out.2.1, HTK.out.2.2.1]; rw [d1, d2, d3]; rfl)
              have HE := hide (skip_true hiN HNX.out heq HSK.out)
              clear heq d1 d2
              go_wp2_with fail
              go_roundw
              case rel => exact ⟨i' + 1, k, rfl, by go_num, by omega, hkW, HE.out, HB1.out⟩
              case measure => (simp [intOf] <;> omega)
            · have d3 : decide (x.v ≤ d + 1) = false := decide_eq_false hv
              have HNS : Hid (skipN T x = false) := hide (by unfold skipN; rw [HTK.out.2.1, HTK.out.2.2.1]; rw [d1, d2, d3]; rfl)
              have hcons := skip_false hiN HNX.out heq HNS.out
              have HCONS := hide hcons
              clear hcons heq d1 d2
              go_wp2_with fail
              obtain ⟨wb, hwb⟩ : ∃ wb, wr.alloc (.cells #[.int .i64 x.s, .int .i64 x.k, .int .u64 x.t, .int .u64 x.v, .int .i64 x.x] 28) = wb := ⟨_, rfl⟩
              have hbb : Below wr.heap.size wr wb := by rw [← hwb]; exact below_alloc (Below.refl _ _) _
              have hgx := res5 (show wb.heap[wr.heap.size]? = some (.cells #[.int .i64 x.s, .int .i64 x.k, .int .u64 x.t, .int .u64 x.v, .int .i64 x.x] 28 (0, 0)) by rw [← hwb]; exact heap_alloc_new wr _)
              try rw [hwb]
              clear hwb
              have HBB := hide (below_step HB.out hbb)
              have HX5 := hide hgx
              clear hbb hgx HB
              generalize wr.heap.size = gx at *
              go_loopw [11] (fun kk wq => ∃ k' : Nat, kk = .int .i64 k' ∧ k' ≤ W.length ∧ (W.drop k').filter (fun x => !tombS T x) = x :: (N.drop (i' + 1)).filter (fun x => !skipN T x) ∧ Below wb.heap.size wb wq) (fun kk _ => W.length - (intOf kk).toNat)
              case atStart => exact ⟨k, rfl, hkW, HCONS.out, Below.refl _ _⟩
              case round =>
                clear HCONS
                obtain ⟨k', rfl, hk', heq', hbq⟩ := hrel
                obtain ⟨wq, rfl⟩ : ∃ wq, wq = wr := ⟨_, rfl⟩
                have hkl : k' < W.length := by
                  rcases Nat.lt_or_ge k' W.length with h | h
                  · exact h
                  · rw [List.drop_of_length_le h] at heq'
                    cases heq'
                have HBQ := hide hbq
                have hq6 := below_step HBB.out hbq
                obtain ⟨bw, ow, hAw, hbw, y0, y1, y2, y3, y4⟩ := ItemsAt.item HW6.out hq6 hkl
                have hbwq : bw < wq.heap.size := Nat.lt_of_lt_of_le hbw hq6.size
                obtain ⟨y, hy⟩ : ∃ y, W[k'] = y := ⟨_, rfl⟩
                rw [hy] at y0 y1 y2 y3 y4
                have hgtq := (HCT.out wq hq6)
                obtain ⟨hgl, t0, t3⟩ := hgtq
                have hklI : (k' : Int) < (W.length : Int) := by omega
                have HQ6 := hide hq6
                subst hAw
                clear hq6 hbq
                by_cases hts : y.k = 1 ∧ y.s = m
                · have HT1 : Hid (tombS T y = true) := hide (by unfold tombS; rw [HTK.out.2.1, decide_eq_true hts.1, decide_eq_true hts.2]; rfl)
                  have HE2 := hide ((tomb_true hkl hy HT1.out).symm.trans heq')
                  obtain ⟨hk1, hs1⟩ := hts
                  rw [hk1] at y1
                  rw [hs1] at y0
                  clear hk1 hs1 heq' hy
                  have ry1 := fun s : Near wq => s.cell y1 hbwq
                  have ry0 := fun s : Near wq => s.cell y0 hbwq
                  have rt0 := fun s : Near wq => s.cell t0 hgl
                  go_wp2_with fail
                  refine wp_region_near (by kernel_rfl) (by kernel_rfl) ?_
                  repeat (go_big_quiet_step (fail))
                  refine wpQuiet_nil ?_
                  intro _ hw'
                  obtain ⟨s1, rfl⟩ := hw'
                  clear ry0 ry1 rt0
                  go_wp2_with fail
                  go_roundw
                  case rel => exact ⟨k' + 1, by go_num, by omega, HE2.out, below_step HBQ.out s1.is⟩
                  case measure => (simp [intOf] <;> omega)
                · have HT1 : Hid (tombS T y = false) := hide (by
                    unfold tombS
                    rw [HTK.out.2.1]
                    rw [Bool.and_eq_false_iff, decide_eq_false_iff_not, decide_eq_false_iff_not]
                    by_cases h : y.k = 1
                    · exact .inr (fun e => hts ⟨h, e⟩)
                    · exact .inl h)
                  have he2 := (tomb_false hkl hy HT1.out).symm.trans heq'
                  injection he2 with hyx he3
                  subst hyx
                  have HE3 := hide he3
                  obtain ⟨lx, x0, x1, x2, x3, x4, _⟩ := HX5.out
                  have x0 := (HBQ.out.cell (p := ⟨gx, _, none⟩) lx).trans x0
                  have x1 := (HBQ.out.cell (p := ⟨gx, _, none⟩) lx).trans x1
                  have x2 := (HBQ.out.cell (p := ⟨gx, _, none⟩) lx).trans x2
                  have x3 := (HBQ.out.cell (p := ⟨gx, _, none⟩) lx).trans x3
                  have x4 := (HBQ.out.cell (p := ⟨gx, _, none⟩) lx).trans x4
                  have lxq : gx < wq.heap.size := Nat.lt_of_lt_of_le lx HBQ.out.size
                  have hgeI : decide ((W.length : Int) ≤ (k' : Int)) = false := decide_eq_false (by omega)
                  have hgeN : decide (W.length ≤ k') = false := decide_eq_false (by omega)
                  clear heq' hy he3 lx
                  have ry0 := fun s : Near wq => s.cell y0 hbwq
                  have ry1 := fun s : Near wq => s.cell y1 hbwq
                  have ry2 := fun s : Near wq => s.cell y2 hbwq
                  have ry3 := fun s : Near wq => s.cell y3 hbwq
                  have ry4 := fun s : Near wq => s.cell y4 hbwq
                  have rx0 := fun s : Near wq => s.cell x0 lxq
                  have rx1 := fun s : Near wq => s.cell x1 lxq
                  have rx2 := fun s : Near wq => s.cell x2 lxq
                  have rx3 := fun s : Near wq => s.cell x3 lxq
                  have rx4 := fun s : Near wq => s.cell x4 lxq
                  have rt0 := fun s : Near wq => s.cell t0 hgl
                  by_cases hk1 : y.k = 1
                  · have hb1 : (y.k == 1) = true := beq_iff_eq.2 hk1
                    have hb2 : (y.s == m) = false := beq_eq_false_iff_ne.2 (fun e => hts ⟨hk1, e⟩)
                    clear hts hk1
                    go_wp2_with fail
                    refine wp_region_near (by kernel_rfl) (by kernel_rfl) ?_
                    repeat (go_big_quiet_step (fail))
                    refine wpQuiet_nil ?_
                    intro _ hw'
                    obtain ⟨s1, rfl⟩ := hw'
                    clear ry0 rx0 ry1 rx1 ry2 rx2 ry3 rx3 ry4 rx4 rt0
                    replace x0 := s1.cell x0 lxq
                    replace y0 := s1.cell y0 hbwq
                    replace x1 := s1.cell x1 lxq
                    replace y1 := s1.cell y1 hbwq
                    replace x2 := s1.cell x2 lxq
                    replace y2 := s1.cell y2 hbwq
                    replace x3 := s1.cell x3 lxq
                    replace y3 := s1.cell y3 hbwq
                    replace x4 := s1.cell x4 lxq
                    replace y4 := s1.cell y4 hbwq
                    replace lxq := Nat.lt_of_lt_of_le lxq s1.is.size
                    replace hbwq := Nat.lt_of_lt_of_le hbwq s1.is.size
                    have HB9 := hide (below_step HBB.out (below_step HBQ.out s1.is))
                    obtain ⟨v4, hv4⟩ : ∃ v, s1.at_ = v := ⟨_, rfl⟩
                    rw [hv4] at lxq hbwq HB9 x0 y0 x1 y1 x2 y2 x3 y3 x4 y4
                    rw [hv4]
                    clear hv4 s1
                    have ry0 := fun s : Near v4 => s.cell y0 hbwq
                    have ry1 := fun s : Near v4 => s.cell y1 hbwq
                    have ry2 := fun s : Near v4 => s.cell y2 hbwq
                    have ry3 := fun s : Near v4 => s.cell y3 hbwq
                    have ry4 := fun s : Near v4 => s.cell y4 hbwq
                    have rx0 := fun s : Near v4 => s.cell x0 lxq
                    have rx1 := fun s : Near v4 => s.cell x1 lxq
                    have rx2 := fun s : Near v4 => s.cell x2 lxq
                    have rx3 := fun s : Near v4 => s.cell x3 lxq
                    have rx4 := fun s : Near v4 => s.cell x4 lxq
                    go_wp2_with fail
                    refine wp_region_near (by kernel_rfl) (by kernel_rfl) ?_
                    repeat (go_big_quiet_step (fail))
                    refine wpQuiet_nil ?_
                    intro _ hw'
                    obtain ⟨s2, rfl⟩ := hw'
                    clear ry0 rx0 x0 y0 ry1 rx1 x1 y1 ry2 rx2 x2 y2 ry3 rx3 x3 y3 ry4 rx4 x4 y4
                    go_wp2_with fail
                    go_roundw
                    case rel => exact ⟨i' + 1, k' + 1, by go_num, by go_num, by omega, by omega, HE3.out, below_step HB9.out s2.is⟩
                    case measure => (simp [intOf] <;> omega)
                  · have hb1 : (y.k == 1) = false := beq_eq_false_iff_ne.2 hk1
                    clear hts hk1
                    go_wp2_with fail
                    refine wp_region_near (by kernel_rfl) (by kernel_rfl) ?_
                    repeat (go_big_quiet_step (fail))
                    refine wpQuiet_nil ?_
                    intro _ hw'
                    obtain ⟨s1, rfl⟩ := hw'
                    clear ry0 rx0 ry1 rx1 ry2 rx2 ry3 rx3 ry4 rx4 rt0
                    replace x0 := s1.cell x0 lxq
                    replace y0 := s1.cell y0 hbwq
                    replace x1 := s1.cell x1 lxq
                    replace y1 := s1.cell y1 hbwq
                    replace x2 := s1.cell x2 lxq
                    replace y2 := s1.cell y2 hbwq
                    replace x3 := s1.cell x3 lxq
                    replace y3 := s1.cell y3 hbwq
                    replace x4 := s1.cell x4 lxq
                    replace y4 := s1.cell y4 hbwq
                    replace lxq := Nat.lt_of_lt_of_le lxq s1.is.size
                    replace hbwq := Nat.lt_of_lt_of_le hbwq s1.is.size
                    have HB9 := hide (below_step HBB.out (below_step HBQ.out s1.is))
                    obtain ⟨v4, hv4⟩ : ∃ v, s1.at_ = v := ⟨_, rfl⟩
                    rw [hv4] at lxq hbwq HB9 x0 y0 x1 y1 x2 y2 x3 y3 x4 y4
                    rw [hv4]
                    clear hv4 s1
                    have ry0 := fun s : Near v4 => s.cell y0 hbwq
                    have ry1 := fun s : Near v4 => s.cell y1 hbwq
                    have ry2 := fun s : Near v4 => s.cell y2 hbwq
                    have ry3 := fun s : Near v4 => s.cell y3 hbwq
                    have ry4 := fun s : Near v4 => s.cell y4 hbwq
                    have rx0 := fun s : Near v4 => s.cell x0 lxq
                    have rx1 := fun s : Near v4 => s.cell x1 lxq
                    have rx2 := fun s : Near v4 => s.cell x2 lxq
                    have rx3 := fun s : Near v4 => s.cell x3 lxq
                    have rx4 := fun s : Near v4 => s.cell x4 lxq
                    go_wp2_with fail
                    refine wp_region_near (by kernel_rfl) (by kernel_rfl) ?_
                    repeat (go_big_quiet_step (fail))
                    refine wpQuiet_nil ?_
                    intro _ hw'
                    obtain ⟨s2, rfl⟩ := hw'
                    clear ry0 rx0 x0 y0 ry1 rx1 x1 y1 ry2 rx2 x2 y2 ry3 rx3 x3 y3 ry4 rx4 x4 y4
                    go_wp2_with fail
                    go_roundw
                    case rel => exact ⟨i' + 1, k' + 1, by go_num, by go_num, by omega, by omega, HE3.out, below_step HB9.out s2.is⟩
                    case measure => (simp [intOf] <;> omega)
        · have hs1 : (x.s == m) = false := beq_eq_false_iff_ne.2 hs
          have d1 : decide (x.s = m) = false := decide_eq_false hs
          clear hs
          have HNS : Hid (skipN T x = false) := hide (by unfold skipN; rw [HTK.out.2.1, HTK.out.2.2.1]; rw [d1]; rfl)
          have hcons := skip_false hiN HNX.out heq HNS.out
          have HCONS := hide hcons
          clear hcons heq d1
          go_wp2_with fail
          obtain ⟨wb, hwb⟩ : ∃ wb, wr.alloc (.cells #[.int .i64 x.s, .int .i64 x.k, .int .u64 x.t, .int .u64 x.v, .int .i64 x.x] 28) = wb := ⟨_, rfl⟩
          have hbb : Below wr.heap.size wr wb := by rw [← hwb]; exact below_alloc (Below.refl _ _) _
          have hgx := res5 (show wb.heap[wr.heap.size]? = some (.cells #[.int .i64 x.s, .int .i64 x.k, .int .u64 x.t, .int .u64 x.v, .int .i64 x.x] 28 (0, 0)) by rw [← hwb]; exact heap_alloc_new wr _)
          try rw [hwb]
          clear hwb
          have HBB := hide (below_step HB.out hbb)
          have HX5 := hide hgx
          clear hbb hgx HB
          generalize wr.heap.size = gx at *
          go_loopw [11] (fun kk wq => ∃ k' : Nat, kk = .int .i64 k' ∧ k' ≤ W.length ∧ (W.drop k').filter (fun x => !tombS T x) = x :: (N.drop (i' + 1)).filter (fun x => !skipN T x) ∧ Below wb.heap.size wb wq) (fun kk _ => W.length - (intOf kk).toNat)
          case atStart => exact ⟨k, rfl, hkW, HCONS.out, Below.refl _ _⟩
          case round =>
            clear HCONS
            obtain ⟨k', rfl, hk', heq', hbq⟩ := hrel
            obtain ⟨wq, rfl⟩ : ∃ wq, wq = wr := ⟨_, rfl⟩
            have hkl : k' < W.length := by
              rcases Nat.lt_or_ge k' W.length with h | h
              · exact h
              · rw [List.drop_of_length_le h] at heq'
                cases heq'
            have HBQ := hide hbq
            have hq6 := below_step HBB.out hbq
            obtain ⟨bw, ow, hAw, hbw, y0, y1, y2, y3, y4⟩ := ItemsAt.item HW6.out hq6 hkl
            have hbwq : bw < wq.heap.size := Nat.lt_of_lt_of_le hbw hq6.size
            obtain ⟨y, hy⟩ : ∃ y, W[k'] = y := ⟨_, rfl⟩
            rw [hy] at y0 y1 y2 y3 y4
            have hgtq := (HCT.out wq hq6)
            obtain ⟨hgl, t0, t3⟩ := hgtq
            have hklI : (k' : Int) < (W.length : Int) := by omega
            have HQ6 := hide hq6
            subst hAw
            clear hq6 hbq
            by_cases hts : y.k = 1 ∧ y.s = m
            · have HT1 : Hid (tombS T y = true) := hide (by unfold tombS; rw [HTK.out.2.1, decide_eq_true hts.1, decide_eq_true hts.2]; rfl)
              have HE2 := hide ((tomb_true hkl hy HT1.out).symm.trans heq')
              obtain ⟨hk1, hs1⟩ := hts
              rw [hk1] at y1
              rw [hs1] at y0
              clear hk1 hs1 heq' hy
              have ry1 := fun s : Near wq => s.cell y1 hbwq
              have ry0 := fun s : Near wq => s.cell y0 hbwq
              have rt0 := fun s : Near wq => s.cell t0 hgl
              go_wp2_with fail
              refine wp_region_near (by kernel_rfl) (by kernel_rfl) ?_
              repeat (go_big_quiet_step (fail))
              refine wpQuiet_nil ?_
              intro _ hw'
              obtain ⟨s1, rfl⟩ := hw'
              clear ry0 ry1 rt0
              go_wp2_with fail
              go_roundw
              case rel => exact ⟨k' + 1, by go_num, by omega, HE2.out, below_step HBQ.out s1.is⟩
              case measure => (simp [intOf] <;> omega)
            · have HT1 : Hid (tombS T y = false) := hide (by
                unfold tombS
                rw [HTK.out.2.1]
                rw [Bool.and_eq_false_iff, decide_eq_false_iff_not, decide_eq_false_iff_not]
                by_cases h : y.k = 1
                · exact .inr (fun e => hts ⟨h, e⟩)
                · exact .inl h)
              have he2 := (tomb_false hkl hy HT1.out).symm.trans heq'
              injection he2 with hyx he3
              subst hyx
              have HE3 := hide he3
              obtain ⟨lx, x0, x1, x2, x3, x4, _⟩ := HX5.out
              have x0 := (HBQ.out.cell (p := ⟨gx, _, none⟩) lx).trans x0
              have x1 := (HBQ.out.cell (p := ⟨gx, _, none⟩) lx).trans x1
              have x2 := (HBQ.out.cell (p := ⟨gx, _, none⟩) lx).trans x2
              have x3 := (HBQ.out.cell (p := ⟨gx, _, none⟩) lx).trans x3
              have x4 := (HBQ.out.cell (p := ⟨gx, _, none⟩) lx).trans x4
              have lxq : gx < wq.heap.size := Nat.lt_of_lt_of_le lx HBQ.out.size
              have hgeI : decide ((W.length : Int) ≤ (k' : Int)) = false := decide_eq_false (by omega)
              have hgeN : decide (W.length ≤ k') = false := decide_eq_false (by omega)
              clear heq' hy he3 lx
              have ry0 := fun s : Near wq => s.cell y0 hbwq
              have ry1 := fun s : Near wq => s.cell y1 hbwq
              have ry2 := fun s : Near wq => s.cell y2 hbwq
              have ry3 := fun s : Near wq => s.cell y3 hbwq
              have ry4 := fun s : Near wq => s.cell y4 hbwq
              have rx0 := fun s : Near wq => s.cell x0 lxq
              have rx1 := fun s : Near wq => s.cell x1 lxq
              have rx2 := fun s : Near wq => s.cell x2 lxq
              have rx3 := fun s : Near wq => s.cell x3 lxq
              have rx4 := fun s : Near wq => s.cell x4 lxq
              have rt0 := fun s : Near wq => s.cell t0 hgl
              by_cases hk1 : y.k = 1
              · have hb1 : (y.k == 1) = true := beq_iff_eq.2 hk1
                have hb2 : (y.s == m) = false := beq_eq_false_iff_ne.2 (fun e => hts ⟨hk1, e⟩)
                clear hts hk1
                go_wp2_with fail
                refine wp_region_near (by kernel_rfl) (by kernel_rfl) ?_
                repeat (go_big_quiet_step (fail))
                refine wpQuiet_nil ?_
                intro _ hw'
                obtain ⟨s1, rfl⟩ := hw'
                clear ry0 rx0 ry1 rx1 ry2 rx2 ry3 rx3 ry4 rx4 rt0
                replace x0 := s1.cell x0 lxq
                replace y0 := s1.cell y0 hbwq
                replace x1 := s1.cell x1 lxq
                replace y1 := s1.cell y1 hbwq
                replace x2 := s1.cell x2 lxq
                replace y2 := s1.cell y2 hbwq
                replace x3 := s1.cell x3 lxq
                replace y3 := s1.cell y3 hbwq
                replace x4 := s1.cell x4 lxq
                replace y4 := s1.cell y4 hbwq
                replace lxq := Nat.lt_of_lt_of_le lxq s1.is.size
                replace hbwq := Nat.lt_of_lt_of_le hbwq s1.is.size
                have HB9 := hide (below_step HBB.out (below_step HBQ.out s1.is))
                obtain ⟨v4, hv4⟩ : ∃ v, s1.at_ = v := ⟨_, rfl⟩
                rw [hv4] at lxq hbwq HB9 x0 y0 x1 y1 x2 y2 x3 y3 x4 y4
                rw [hv4]
                clear hv4 s1
                have ry0 := fun s : Near v4 => s.cell y0 hbwq
                have ry1 := fun s : Near v4 => s.cell y1 hbwq
                have ry2 := fun s : Near v4 => s.cell y2 hbwq
                have ry3 := fun s : Near v4 => s.cell y3 hbwq
                have ry4 := fun s : Near v4 => s.cell y4 hbwq
                have rx0 := fun s : Near v4 => s.cell x0 lxq
                have rx1 := fun s : Near v4 => s.cell x1 lxq
                have rx2 := fun s : Near v4 => s.cell x2 lxq
                have rx3 := fun s : Near v4 => s.cell x3 lxq
                have rx4 := fun s : Near v4 => s.cell x4 lxq
                go_wp2_with fail
                refine wp_region_near (by kernel_rfl) (by kernel_rfl) ?_
                repeat (go_big_quiet_step (fail))
                refine wpQuiet_nil ?_
                intro _ hw'
                obtain ⟨s2, rfl⟩ := hw'
                clear ry0 rx0 x0 y0 ry1 rx1 x1 y1 ry2 rx2 x2 y2 ry3 rx3 x3 y3 ry4 rx4 x4 y4
                go_wp2_with fail
                go_roundw
                case rel => exact ⟨i' + 1, k' + 1, by go_num, by go_num, by omega, by omega, HE3.out, below_step HB9.out s2.is⟩
                case measure => (simp [intOf] <;> omega)
              · have hb1 : (y.k == 1) = false := beq_eq_false_iff_ne.2 hk1
                clear hts hk1
                go_wp2_with fail
                refine wp_region_near (by kernel_rfl) (by kernel_rfl) ?_
                repeat (go_big_quiet_step (fail))
                refine wpQuiet_nil ?_
                intro _ hw'
                obtain ⟨s1, rfl⟩ := hw'
                clear ry0 rx0 ry1 rx1 ry2 rx2 ry3 rx3 ry4 rx4 rt0
                replace x0 := s1.cell x0 lxq
                replace y0 := s1.cell y0 hbwq
                replace x1 := s1.cell x1 lxq
                replace y1 := s1.cell y1 hbwq
                replace x2 := s1.cell x2 lxq
                replace y2 := s1.cell y2 hbwq
                replace x3 := s1.cell x3 lxq
                replace y3 := s1.cell y3 hbwq
                replace x4 := s1.cell x4 lxq
                replace y4 := s1.cell y4 hbwq
                replace lxq := Nat.lt_of_lt_of_le lxq s1.is.size
                replace hbwq := Nat.lt_of_lt_of_le hbwq s1.is.size
                have HB9 := hide (below_step HBB.out (below_step HBQ.out s1.is))
                obtain ⟨v4, hv4⟩ : ∃ v, s1.at_ = v := ⟨_, rfl⟩
                rw [hv4] at lxq hbwq HB9 x0 y0 x1 y1 x2 y2 x3 y3 x4 y4
                rw [hv4]
                clear hv4 s1
                have ry0 := fun s : Near v4 => s.cell y0 hbwq
                have ry1 := fun s : Near v4 => s.cell y1 hbwq
                have ry2 := fun s : Near v4 => s.cell y2 hbwq
                have ry3 := fun s : Near v4 => s.cell y3 hbwq
                have ry4 := fun s : Near v4 => s.cell y4 hbwq
                have rx0 := fun s : Near v4 => s.cell x0 lxq
                have rx1 := fun s : Near v4 => s.cell x1 lxq
                have rx2 := fun s : Near v4 => s.cell x2 lxq
                have rx3 := fun s : Near v4 => s.cell x3 lxq
                have rx4 := fun s : Near v4 => s.cell x4 lxq
                go_wp2_with fail
                refine wp_region_near (by kernel_rfl) (by kernel_rfl) ?_
                repeat (go_big_quiet_step (fail))
                refine wpQuiet_nil ?_
                intro _ hw'
                obtain ⟨s2, rfl⟩ := hw'
                clear ry0 rx0 x0 y0 ry1 rx1 x1 y1 ry2 rx2 x2 y2 ry3 rx3 x3 y3 ry4 rx4 x4 y4
                go_wp2_with fail
                go_roundw
                case rel => exact ⟨i' + 1, k' + 1, by go_num, by go_num, by omega, by omega, HE3.out, below_step HB9.out s2.is⟩
                case measure => (simp [intOf] <;> omega)
      · obtain rfl : i' = N.length := by omega
        have hiI : ¬ (N.length : Int) < (N.length : Int) := by omega
        rw [List.drop_length, List.filter_nil] at heq
        have HE0 := hide heq
        have HB := hide hb
        clear heq hb
        obtain ⟨we, rfl⟩ : ∃ we, we = wr := ⟨_, rfl⟩
        go_wp2_with fail
        go_loopw [11] (fun kk wq => ∃ k' : Nat, kk = .int .i64 k' ∧ k' ≤ W.length ∧ [] = (W.drop k').filter (fun x => !tombS T x) ∧ Below we.heap.size we wq) (fun kk _ => W.length - (intOf kk).toNat)
        case atStart => exact ⟨k, rfl, hkW, HE0.out.symm, Below.refl _ _⟩
        case round =>
          clear HE0
          obtain ⟨k', rfl, hk', heq', hbq⟩ := hrel
          obtain ⟨wq, rfl⟩ : ∃ wq, wq = wr := ⟨_, rfl⟩
          have HBQ := hide hbq
          have hq6 := below_step HB.out hbq
          clear hbq
          by_cases hkl : k' < W.length
          · obtain ⟨bw, ow, hAw, hbw, y0, y1, y2, y3, y4⟩ := ItemsAt.item HW6.out hq6 hkl
            have hbwq : bw < wq.heap.size := Nat.lt_of_lt_of_le hbw hq6.size
            obtain ⟨y, hy⟩ : ∃ y, W[k'] = y := ⟨_, rfl⟩
            rw [hy] at y0 y1 y2 y3 y4
            obtain ⟨hgl, t0, t3⟩ := HCT.out wq hq6
            have hklI : (k' : Int) < (W.length : Int) := by omega
            subst hAw
            cases hts : tombS T y with
            | false =>
              rw [tomb_false hkl hy hts] at heq'
              cases heq'
            | true =>
              have HE2 := hide (heq'.trans (tomb_true hkl hy hts))
              unfold tombS at hts
              rw [HTK.out.2.1] at hts
              simp only [Bool.and_eq_true, decide_eq_true_eq] at hts
              rw [hts.1] at y1
              rw [hts.2] at y0
              clear hts heq' hy hq6
              have ry1 := fun s : Near wq => s.cell y1 hbwq
              have ry0 := fun s : Near wq => s.cell y0 hbwq
              have rt0 := fun s : Near wq => s.cell t0 hgl
              go_wp2_with fail
              refine wp_region_near (by kernel_rfl) (by kernel_rfl) ?_
              repeat (go_big_quiet_step (fail))
              refine wpQuiet_nil ?_
              intro _ hw'
              obtain ⟨s1, rfl⟩ := hw'
              clear ry0 ry1 rt0
              go_wp2_with fail
              go_roundw
              case rel => exact ⟨k' + 1, by go_num, by omega, HE2.out, below_step HBQ.out s1.is⟩
              case measure => (simp [intOf] <;> omega)
          · obtain rfl : k' = W.length := by omega
            have hkI : ¬ (W.length : Int) < (W.length : Int) := by omega
            have hll : decide ((W.length : Int) ≤ (N.length : Int) + 1) = true := decide_eq_true (by omega)
            have hll2 : decide (W.length ≤ N.length + 1) = true := decide_eq_true (by omega)
            have HQ6 := hide hq6
            clear heq' hq6
            go_wp2_with fail
            refine wp_region_near (by kernel_rfl) (by kernel_rfl) ?_
            repeat (go_big_quiet_step (fail))
            refine wpQuiet_nil ?_
            intro _ hw'
            obtain ⟨s1, rfl⟩ := hw'
            go_wp2_with fail
            refine (Calls.mono (awake13_any _) ?_); rintro e w7 ⟨rfl, hb7⟩
            have HB7 := hide (below_step HBT.out (below_step (below_step HQ6.out s1.is) hb7))
            clear hb7
            go_wp2_with fail
            go_ret
            exact ⟨rfl, HB7.out⟩
end Go.Proofs.Ytfmckinlgaejeaa.mergeHides
