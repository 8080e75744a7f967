/- coord.Call: items: a contract. Conditions: the call as it lies; lengths. -/
import Derived.Test.YtlabpgdimhbocaaGreatCoL
import Derived.Test.YtlabpgdimhbocaaGreatPFil
namespace Go.Proofs.YtlabpgdimhbocaaGreat
set_option linter.unusedVariables false
set_option linter.unusedSimpArgs false
open Go.ChangeShapes Go.WideShapes Go.ChangeAt Go.RowKit
/-- One's own, or cut to nothing. -/
def CutO (base : Nat) (w : World) (v : Value) (L : List It) : Prop := Ow base w v L ∨ (L = [] ∧ ∃ b : Addr, v = .slice (some b) 0 0)
theorem CutO.below {base : Nat} {w w' : World} {v : Value} {L : List It} (h : CutO base w v L) (hb : Below w.heap.size w w') : CutO base w' v L := h.imp (fun k => OwnL.below k hb) id
theorem CutO.sl {base : Nat} {w : World} {v : Value} {L : List It} (h : CutO base w v L) : Sl w v L := by
  rcases h with h | ⟨rfl, b, rfl⟩
  · exact h.og.sl
  · exact ⟨some b, 0, rfl, fun hne => absurd rfl hne, Nat.le_refl _, Nat.zero_le _⟩
theorem append_cut (w : World) (b a : Addr) (y : It) (ha : ∀ j v, (It.cells y)[j]? = some v → w.cell? (a.add j) = some v) :
    (Builtin.append_ #[37, 37] 37 #[.slice (some b) 0 0, .slice (some a) 1 1]).run Tryz.prog w = (Builtin.append_ #[37, 37] 37 #[.slice none 0 0, .slice (some a) 1 1]).run Tryz.prog w := by
  obtain ⟨i0, hi, hz0, hz1, hz2⟩ := info_parts Tryz.infoItem
  rw [run_append_nil (P := Tryz.prog) w 37 37 78 i0 _ Tryz.underlying37 hi hz0 a 1 1 (It.cells y) (by rw [hz1]; rfl) ha (by omega) (by omega) (by rw [hz2]; omega)]
  rw [run_append_grow (P := Tryz.prog) w 37 37 78 i0 _ Tryz.underlying37 hi hz0 b 0 0 [] (by simp) (by simp) a 1 1 (It.cells y) (by rw [hz1]; rfl) ha (by omega) (by omega) (by rw [hz2, show 0 + 1 = 1 from rfl, nextslicecap_zero (by omega)]; omega)]
  simp
theorem wpList_append_cut {ops : Array Oper} {rest : List Oper} {o : Oper} {a : Act} {Q : Exit → Act → World → Prop} (hgd : o.guard = none) (s x : Operand)
    (ho : o.op = .call { callee := .builtin .append, args := #[s, x], argTypes := #[37, 37] }) (hty : o.type = 37)
    (B base : Nat) (w0 w W : World) (v : Value) (L : List It) (y : It) (hs : a.eval s = v) (hx : a.eval x = .slice (some ⟨w.heap.size, 0, none⟩) 1 1) (hW : W = w.alloc (.cells y.cells.toArray 78))
    (hown : CutO base w v L) (hb : Below B w0 w) (hB : B ≤ base) (hbase : base ≤ w.heap.size) (hn : L.length ≤ 2199023255552)
    (h : ∀ v' w', Ow base w' v' (L ++ [y]) → Below B w0 w' → wpList Tryz.prog ops Q rest (a.put o.dst v') w') : wpList Tryz.prog ops Q (o :: rest) a W := by
  rcases hown with hown | ⟨rfl, b, rfl⟩
  · exact wpList_append_item hgd s x ho B base w0 w W v L y hs hx hW hown hb hB hbase hn (fun v' w' h1 h2 _ => h v' w' h1 h2)
  · subst hW
    refine wpList_plain hgd fun K hK => ?_
    obtain ⟨i0, hi, hz0, hz1, hz2⟩ := info_parts Tryz.infoItem
    have hrow : RowAt It.cells 5 (w.alloc (.cells y.cells.toArray 78)) (some ⟨w.heap.size, 0, none⟩) [y] := RowAt.new_one (t := 78) (fr := (0, 0)) (heap_alloc_new w _)
    obtain ⟨v', w', hrun, h2, h3, h4⟩ := run_append_row (P := Tryz.prog) (w.alloc (.cells y.cells.toArray 78)) base 37 37 78 i0 _ 5 40 Tryz.underlying37 hi hz0 hz1 hz2 rfl (by omega) It.cells_len (.slice none 0 0) [] (OwnL.nil_ _ _ _ _ _) (some ⟨w.heap.size, 0, none⟩) 1 [y] hrow (by simp) (fun m _ => It.cells_one m) (by simp [maxLen]) (by simp) (by simp; omega)
    have hrun' : (Builtin.append_ #[37, 37] 37 #[.slice (some b) 0 0, .slice (some ⟨w.heap.size, 0, none⟩) 1 1]).run Tryz.prog (w.alloc (.cells y.cells.toArray 78)) = .ok v' w' := by
      rw [append_cut _ b ⟨w.heap.size, 0, none⟩ y (fun j u hu => by
        rw [Addr.add_lit, Nat.zero_add]
        exact (cell_of_row _ _ j _ _ _ (heap_alloc_new w (.cells y.cells.toArray 78))).trans (by simpa using hu))]
      exact hrun
    unfold Oper.wp execOp
    simp only [ho, hty, resolve, invoke, builtin, Sem.run_bind, Sem.run_pure, Result.andThen_ok, List.map_toArray, List.map_cons, List.map_nil, hs, hx, hrun']
    refine hK _ _ (h v' w' h2 ?_)
    have hb2 : Below B w0 (w.alloc (.cells y.cells.toArray 78)) := hb.alloc (Nat.le_trans hB hbase) _
    exact hb2.grown h3 (by simp; omega) (fun k hk => by cases hk)
theorem cert_snoc {N : List Gt} {k : Nat} (hk : k < N.length) : certG ((N.map Gt.bare).take (k + 1)) = max (certG ((N.map Gt.bare).take k)) N[k].n := by
  unfold certG
  have hk2 : k < (N.map Gt.bare).length := by simpa using hk
  rw [List.take_succ_eq_append_getElem hk2, List.foldl_append]
  simp [Gt.bare]
theorem take_bare (c : Int) (y : Gt) : takeG c y.bare = takeG c y := rfl
theorem join_snoc {N : List Gt} {k : Nat} (c : Int) (hk : k < N.length) : joinG c ((N.map Gt.bare).take (k + 1)) = joinL (joinG c ((N.map Gt.bare).take k)) (takeG c N[k]) := by
  unfold joinG
  have hk2 : k < (N.map Gt.bare).length := by simpa using hk
  rw [List.take_succ_eq_append_getElem hk2, List.foldl_append]
  simp [take_bare]
theorem take_len (c : Int) (y : Gt) : (takeG c y).length ≤ y.L.length := by
  unfold takeG
  split
  · exact List.length_filter_le _ _
  · exact Nat.le_refl _
theorem joinG_len (c : Int) : ∀ (G : List Gt) (m : Nat), (∀ g ∈ G, g.L.length ≤ m) → (joinG c G).length ≤ G.length * m := by
  intro G m
  unfold joinG
  suffices h : ∀ (G : List Gt) (o : List It), (∀ g ∈ G, g.L.length ≤ m) → (G.foldl (fun o g => joinL o (takeG c g)) o).length ≤ o.length + G.length * m by
    intro hG
    have := h G [] hG
    simpa using this
  intro G
  induction G with
  | nil => intro o _; simp
  | cons g G ih =>
    intro o hG
    rw [List.foldl_cons]
    have h1 := ih (joinL o (takeG c g)) (fun x hx => hG x (List.mem_cons_of_mem _ hx))
    have h2 := joinL_len o (takeG c g)
    have h3 := take_len c g
    have h4 := hG g (List.mem_cons_self ..)
    rw [List.length_cons, Nat.succ_mul]
    omega
theorem gt_row {w w' : World} {A : Option Addr} {M : List Gt} (h : RowAt Gt.cells 2 w A M) (hb : Below w.heap.size w w') {k : Nat} (hk : k < M.length) :
    ∃ g off, A = some ⟨g, off, none⟩ ∧ g < w.heap.size ∧ w'.cell? ⟨g, off + k * 2, none⟩ = some (.int .u64 (M[k]).n) ∧ w'.cell? ⟨g, off + k * 2 + 1, none⟩ = some (.slice (M[k]).A (M[k]).L.length (M[k]).c) := by
  obtain ⟨g, off, rfl, hlt, hc⟩ := h.at_ hk
  have hx : ∀ j u, (Gt.cells M[k])[j]? = some u → w'.cell? ⟨g, off + k * 2 + j, none⟩ = some u := fun j u hu => keep_cell hb (hc k hk j u hu) hlt
  exact ⟨g, off, rfl, hlt, by simpa using hx 0 _ rfl, hx 1 _ rfl⟩
set_option maxRecDepth 100000 in
set_option maxHeartbeats 6400000 in
theorem citems_any {b : Nat} {G : List Gt} {s : Int} (hG : G.length ≤ 1000) (hL : ∀ g ∈ G, g.L.length ≤ 1000000) : ItemsH b G s := by
  intro w m X vg R hRG hRs hb hcg
  have lb := (Array.getElem?_eq_some_iff.1 hb).1
  obtain ⟨N, hN, how, hrd, _⟩ := hcg.row
  obtain ⟨Ag, cg, rfl, hrow, _, _, _⟩ := OwnL.row Gt.cells_len how
  have c16 : w.cell? ⟨b, 16, none⟩ = some (.slice Ag N.length cg) := (cell_of_list (o := 16) hb).trans rfl
  have c4 : w.cell? ⟨b, 4, none⟩ = some (.int .i64 s) := by rw [← hRs]; exact (cell_of_list (o := 4) hb).trans rfl
  obtain ⟨n, hn⟩ : ∃ n, N.length = n := ⟨_, rfl⟩
  have hn1000 : n ≤ 1000 := by
    have h1 := congrArg List.length hN
    rw [List.length_map] at h1
    omega
  have HNL := hide hn
  have HN := hide hN
  have HROW := hide hrow
  have HRD := hide hrd
  have HLL : Hid (∀ y ∈ N, y.L.length ≤ 1000000) := hide (fun y hy => hL y.bare (by rw [← hN]; exact List.mem_map_of_mem hy))
  have HLG := hide hL
  have HCC : Hid (∀ W, Below w.heap.size w W → W.cell? ⟨b, 16, none⟩ = some (.slice Ag N.length cg) ∧ W.cell? ⟨b, 4, none⟩ = some (.int .i64 s) ∧ b < W.heap.size) := hide (fun W hW => ⟨keep_cell hW c16 lb, keep_cell hW c4 lb, Nat.lt_of_lt_of_le lb hW.size⟩)
  rw [hn] at c16 HCC
  clear hRG hRs hb hcg hN how hrd hrow hG hL hn
  go_enter Tryz.func43, Tryz.ntmps43
  go_upto_block 0 with fail
  go_cut [3] (fun v W => v = .int .u64 (certG G) ∧ Below w.heap.size w W)
  case first =>
    go_wp2_with fail
    go_loopw [3, 17] (fun v i wr => ∃ k : Nat, k ≤ n ∧ i = .int .i64 k ∧ v = .int .u64 (certG (G.take k)) ∧ Below w.heap.size w wr) (fun _ i _ => n - (intOf i).toNat)
    case atStart => exact ⟨0, by omega, rfl, rfl, Below.refl _ _⟩
    case round =>
      obtain ⟨k, hk, rfl, rfl, hbr⟩ := hrel
      have HB := hide hbr
      clear hbr
      by_cases hlt : k < n
      · have hkI : (k : Int) < (n : Int) := by omega
        have hk0 : (0 : Int) ≤ (k : Int) := by omega
        have hkN : k < N.length := by rw [HNL.out]; exact hlt
        obtain ⟨g, off, rfl, hgl, y0, y1⟩ := gt_row HROW.out HB.out hkN
        have hsn := cert_snoc hkN
        rw [HN.out] at hsn
        have lgr : g < wr.heap.size := Nat.lt_of_lt_of_le hgl HB.out.size
        generalize N[k] = y at *
        obtain ⟨ce, hce⟩ : ∃ ce, certG (G.take k) = ce := ⟨_, rfl⟩
        rw [hce] at hsn ⊢
        clear hce
        by_cases hc : y.n < ce
        · have hc2 : ¬ ce < y.n := by omega
          have HS : Hid (certG (G.take (k + 1)) = ce) := hide (by rw [hsn]; omega)
          clear hsn
          go_wp2_with fail
          go_roundw
          case rel => exact ⟨k + 1, by omega, by go_num, by rw [HS.out], below_alloc HB.out _⟩
          case measure => (simp [intOf] <;> omega)
        · have HS : Hid (certG (G.take (k + 1)) = y.n) := hide (by rw [hsn]; omega)
          clear hsn
          by_cases hc2 : ce < y.n
          · go_wp2_with fail
            go_roundw
            case rel => exact ⟨k + 1, by omega, by go_num, by rw [HS.out], below_alloc HB.out _⟩
            case measure => (simp [intOf] <;> omega)
          · obtain rfl : ce = y.n := by omega
            go_wp2_with fail
            go_roundw
            case rel => exact ⟨k + 1, by omega, by go_num, by rw [HS.out], below_alloc HB.out _⟩
            case measure => (simp [intOf] <;> omega)
      · obtain rfl : n = k := by omega
        have hkI : ¬ (n : Int) < (n : Int) := by omega
        have HS : Hid (G.take n = G) := hide (by rw [← HN.out]; rw [← HNL.out]; exact List.take_of_length_le (by simp))
        go_wp2_with fail
        go_meet
        exact ⟨by rw [HS.out], HB.out⟩
  case rest =>
  obtain ⟨rfl, hbw⟩ := hcut
  obtain ⟨ce, hce⟩ : ∃ ce, certG G = ce := ⟨_, rfl⟩
  have HCE := hide hce
  have HBW := hide hbw
  rw [hce]
  obtain ⟨d16, d4, lb2⟩ := HCC.out _ hbw
  clear hce hbw c16 c4 lb
  go_upto_block 2 with fail
  go_cut [6] (fun v W => Sl W v (joinG ce G) ∧ Below w.heap.size w W)
  case first =>
    go_wp2_with fail
    go_loopw [6, 31] (fun v i wr => ∃ k : Nat, k ≤ n ∧ i = .int .i64 k ∧ Sl wr v (joinG ce (G.take k)) ∧ Below w.heap.size w wr) (fun _ i _ => n - (intOf i).toNat)
    case atStart => exact ⟨0, by omega, rfl, Sl.nil_ _, HBW.out⟩
    case round =>
      obtain ⟨k, hk, rfl, hsl, hbr⟩ := hrel
      have HB := hide hbr
      have HSL := hide hsl
      clear hbr hsl d16 d4 lb2
      by_cases hlt : k < n
      · have hkI : (k : Int) < (n : Int) := by omega
        have hk0 : (0 : Int) ≤ (k : Int) := by omega
        have hkN : k < N.length := by rw [HNL.out]; exact hlt
        obtain ⟨g, off, rfl, hgl, y0, y1⟩ := gt_row HROW.out HB.out hkN
        have HSN := hide (join_snoc ce hkN)
        rw [HN.out] at HSN
        have lgr : g < wr.heap.size := Nat.lt_of_lt_of_le hgl HB.out.size
        have HYR := hide ((HRD.out N[k] (List.getElem_mem _)).below HB.out)
        have HYL := hide (HLL.out N[k] (List.getElem_mem _))
        have HJL : Hid ((joinG ce (G.take k)).length ≤ 1000000000) := hide (by
          have h1 := joinG_len ce (G.take k) 1000000 (fun x hx => HLG.out x (List.mem_of_mem_take hx))
          have h2 : (G.take k).length ≤ 1000 := by rw [List.length_take]; omega
          have h3 := Nat.mul_le_mul_right 1000000 h2
          omega)
        generalize N[k] = y at *
        generalize joinG ce (G.take k) = J at *
        have hza := heap_alloc_new wr (.cells #[.int .u64 y.n, .slice y.A y.L.length y.c] 75)
        have hba := below_alloc (Below.refl wr.heap.size wr) (.cells #[.int .u64 y.n, .slice y.A y.L.length y.c] 75)
        obtain ⟨wa, hwa⟩ : ∃ wa, wr.alloc (.cells #[.int .u64 y.n, .slice y.A y.L.length y.c] 75) = wa := ⟨_, rfl⟩
        rw [hwa] at hza hba
        obtain ⟨ga, hga⟩ : ∃ ga, wr.heap.size = ga := ⟨_, rfl⟩
        rw [hga] at hza
        have HWA := hide hwa
        have HGA := hide hga
        have HBA := hide hba
        have lga := (Array.getElem?_eq_some_iff.1 hza).1
        have x0 : wa.cell? ⟨ga, 0, none⟩ = some (.int .u64 y.n) := (cell_of_row _ _ 0 _ _ _ hza).trans rfl
        have x1 : wa.cell? ⟨ga, 1, none⟩ = some (.slice y.A y.L.length y.c) := (cell_of_row _ _ 1 _ _ _ hza).trans rfl
        clear hwa hba hga hza
        go_upto_region 11 with fail
        try rw [HWA.out]
        try rw [HGA.out]
        clear y0 y1
        go_upto_if 40 with fail
        go_cut [9] (fun v W => Sl W v (takeG ce y) ∧ Below wa.heap.size wa W)
        case first =>
          by_cases hc : y.n < ce
          · have HT : Hid (takeG ce y = y.L.filter (fun z => decide (ce < z.v))) := hide (by unfold takeG; rw [if_pos hc])
            have hcI : decide (y.n < ce) = true := decide_eq_true hc
            rw [hcI]
            have HYA := hide (HYR.out.1.below HBA.out)
            have hyl : y.L.length ≤ 1000000 := HYL.out
            obtain ⟨A, hA⟩ : ∃ A, y.A = A := ⟨_, rfl⟩
            obtain ⟨cc, hcc⟩ : ∃ cc, y.c = cc := ⟨_, rfl⟩
            rw [hA, hcc] at x1
            rw [hA] at HYA
            try rw [hA]
            try rw [hcc]
            have hcc2 : y.L.length ≤ cc := by rw [← hcc]; exact HYR.out.2.1
            have HCUT : Hid (CutO wa.heap.size wa (.slice A 0 0) []) := hide (by
              cases A with
              | none => exact .inl (Ow.nil_ _ _)
              | some a => exact .inr ⟨rfl, a, rfl⟩)
            generalize y.L = L at *
            clear hA hcc
            have hcc0 : (0 : Int) ≤ (cc : Int) := by omega
            go_wp2_with fail
            obtain ⟨wo, rfl⟩ : ∃ wo, wo = wr := ⟨_, rfl⟩
            go_loopw [9, 46] (fun v j ww => ∃ q : Nat, q ≤ L.length ∧ j = .int .i64 q ∧ CutO wa.heap.size ww v ((L.take q).filter (fun z => decide (ce < z.v))) ∧ Below wa.heap.size wa ww) (fun _ j _ => L.length - (intOf j).toNat)
            case atStart => exact ⟨0, by omega, rfl, HCUT.out, Below.refl _ _⟩
            case round =>
              obtain ⟨q, hq, rfl, hcu, hbq⟩ := hrel
              obtain ⟨ww, rfl⟩ : ∃ ww, ww = wr := ⟨_, rfl⟩
              have HCU := hide hcu
              have HBQ := hide hbq
              clear hcu hbq HCUT
              by_cases hql : q < L.length
              · have hqI : (q : Int) < (L.length : Int) := by omega
                have hq0 : (0 : Int) ≤ (q : Int) := by omega
                obtain ⟨bl, ofs, rfl, hbb, z0, z1, z2, z3, z4⟩ := ItemsAt.item HYA.out HBQ.out hql
                have HF1 := hide (filt_in (p := fun z => decide (ce < z.v)) hql)
                have HF2 := hide (filt_out (p := fun z => decide (ce < z.v)) hql)
                have hNl : ((L.take q).filter (fun z => decide (ce < z.v))).length ≤ q := filt_len _ _ _
                have lbl : bl < ww.heap.size := Nat.lt_of_lt_of_le hbb HBQ.out.size
                generalize L[q] = z at *
                generalize (L.take q).filter (fun z => decide (ce < z.v)) = Nq at *
                have hzi := heap_alloc_new ww (.cells #[.int .i64 z.s, .int .i64 z.k, .int .u64 z.t, .int .u64 z.v, .int .i64 z.x] 78)
                have hbi := below_alloc (Below.refl ww.heap.size ww) (.cells #[.int .i64 z.s, .int .i64 z.k, .int .u64 z.t, .int .u64 z.v, .int .i64 z.x] 78)
                obtain ⟨wi, hwi⟩ : ∃ wi, ww.alloc (.cells #[.int .i64 z.s, .int .i64 z.k, .int .u64 z.t, .int .u64 z.v, .int .i64 z.x] 78) = wi := ⟨_, rfl⟩
                rw [hwi] at hzi hbi
                obtain ⟨gi, hgi⟩ : ∃ gi, ww.heap.size = gi := ⟨_, rfl⟩
                rw [hgi] at hzi
                have HWI := hide hwi
                have HGI := hide hgi
                have HBI := hide (below_step HBQ.out hbi)
                have HCI := hide (HCU.out.below hbi)
                have lgi := (Array.getElem?_eq_some_iff.1 hzi).1
                obtain ⟨v0, v1, v2, v3, v4⟩ := box_item (x := z) hzi
                clear hwi hbi hgi hzi
                by_cases hv : ce < z.v
                · have HN := hide (HF1.out (decide_eq_true hv))
                  have hvI : decide (ce < z.v) = true := decide_eq_true hv
                  go_upto_region 17 with fail
                  try rw [HWI.out]
                  try rw [HGI.out]
                  clear z0 z1 z2 z3 z4
                  go_wp2_with (at_builtin; refine wpList_append_cut rfl (.tmp 54) (.tmp 56) rfl rfl _ _ _ _ _ _ Nq z rfl rfl rfl HCI.out HBI.out (Nat.le_refl _) HBI.out.size (by omega) ?_; intro v1 u1 ho1 hbu1; have HO1 := hide ho1; have HBU1 := hide hbu1; clear ho1 hbu1)
                  go_roundw
                  case rel => exact ⟨q + 1, by omega, by go_num, .inl (by rw [HN.out]; exact HO1.out), HBU1.out⟩
                  case measure => (simp [intOf] <;> omega)
                · have HN := hide (HF2.out (decide_eq_false hv))
                  have hvI : decide (ce < z.v) = false := decide_eq_false hv
                  go_upto_region 17 with fail
                  try rw [HWI.out]
                  try rw [HGI.out]
                  clear z0 z1 z2 z3 z4
                  go_wp2_with fail
                  go_roundw
                  case rel => exact ⟨q + 1, by omega, by go_num, by rw [HN.out]; exact HCI.out, HBI.out⟩
                  case measure => (simp [intOf] <;> omega)
              · obtain rfl : q = L.length := by omega
                have hqI : ¬ (L.length : Int) < (L.length : Int) := by omega
                have HF := hide (filt_all (fun z => decide (ce < z.v)) L)
                go_wp2_with fail
                go_meet
                exact ⟨by rw [HT.out, ← HF.out]; exact HCU.out.sl, HBQ.out⟩
          · have HT : Hid (takeG ce y = y.L) := hide (by unfold takeG; rw [if_neg hc])
            go_wp2_with fail
            go_meet
            exact ⟨by rw [HT.out]; exact Sl.mk_ (HYR.out.1.below HBA.out) HYR.out.2.1 HYR.out.2.2, Below.refl _ _⟩
        case rest =>
          obtain ⟨hs9, hb9⟩ := hcut
          have hb9r := below_step HBA.out hb9
          have hJN := HJL.out
          have htl := take_len ce y
          have hyl := HYL.out
          have HJ := hide (pjoin_sl (HSL.out.below hb9r) hs9 (by omega) (by omega))
          have HB9 := hide (below_step HB.out hb9r)
          clear hs9 hb9 hb9r x0 x1 lga
          go_wp2_with fail
          refine (Calls.mono HJ.out ?_); rintro e w5 ⟨v5, rfl, ho5, hb5⟩
          have HS5 := hide ho5.sl
          have HB5 := hide (below_step HB9.out hb5)
          clear ho5 hb5 HJ
          go_wp2_with fail
          go_roundw
          case rel => exact ⟨k + 1, by omega, by go_num, by rw [HSN.out]; exact HS5.out, HB5.out⟩
          case measure => (simp [intOf] <;> omega)
      · obtain rfl : n = k := by omega
        have hkI : ¬ (n : Int) < (n : Int) := by omega
        have HS : Hid (G.take n = G) := hide (by rw [← HN.out]; rw [← HNL.out]; exact List.take_of_length_le (by simp))
        rw [HS.out] at HSL
        go_wp2_with fail
        go_meet
        exact ⟨HSL.out, HB.out⟩
  case rest =>
  obtain ⟨hsl, hb2⟩ := hcut
  have HB2 := hide hb2
  obtain ⟨e16, e4, lb3⟩ := HCC.out _ hb2
  have hJl : (joinG ce G).length ≤ 1000000000 := by
    have h1 := joinG_len ce G 1000000 HLG.out
    have h2 : G.length ≤ 1000 := by rw [← HN.out, List.length_map, HNL.out]; exact hn1000
    have h3 := Nat.mul_le_mul_right 1000000 h2
    omega
  have HIC : Hid (itemsC G s = (joinG ce G).filter (serP s)) := hide (by unfold itemsC; rw [HCE.out])
  generalize joinG ce G = J at *
  obtain ⟨A, c, rfl, hr, h1, h2⟩ := hsl
  have HSE := hide (pseries_any A c J s _ hr (by omega))
  clear hr h1 h2 hb2 d16 d4 lb2 e16
  go_wp2_with fail
  refine (Calls.mono HSE.out ?_); rintro e w5 ⟨v5, rfl, ho5, hb5⟩
  obtain ⟨A5, c5, rfl, _, _, _⟩ := ho5.sl
  have HO5 := hide ho5
  have HB5 := hide (below_step HB2.out hb5)
  clear ho5 hb5 HSE
  go_wp2_with fail
  go_ret
  exact ⟨_, rfl, by rw [HIC.out]; exact HO5.out.base_ HB2.out.size, HB5.out⟩
end Go.Proofs.YtlabpgdimhbocaaGreat
