/- clepsydraref26.Call of a client's call: read, end: contracts. Conditions: the call as it lies; lengths. -/
import Derived.Test.YtlabpgdimhbocaaGreatCd
import Derived.Test.YtlabpgdimhbocaaGreatRFil
namespace Go.Proofs.YtlabpgdimhbocaaGreat
set_option linter.unusedVariables false
set_option linter.unusedSimpArgs false
open Go.ChangeShapes Go.WideShapes Go.ChangeAt Go.RowKit
/-- What the document's get joins. -/
def certM (G : List Mg) : Int := G.foldl (fun c g => max c g.n) 0
noncomputable def readI (c n : Int) (o L : List It) : List It := L.foldl (fun o x => if n = c ∨ c < x.v then joinL o [x] else o) o
noncomputable def readM (c : Int) (G : List Mg) : List It := G.foldl (fun o g => readI c g.n o g.L) []
theorem certM_snoc {N : List Mg} {k : Nat} (hk : k < N.length) : certM (N.take (k + 1)) = max (certM (N.take k)) N[k].n := by
  unfold certM
  rw [List.take_succ_eq_append_getElem hk, List.foldl_append]
  rfl
theorem readM_snoc {N : List Mg} {k : Nat} (c : Int) (hk : k < N.length) : readM c (N.take (k + 1)) = readI c N[k].n (readM c (N.take k)) N[k].L := by
  unfold readM
  rw [List.take_succ_eq_append_getElem hk, List.foldl_append]
  rfl
theorem readI_snoc {L : List It} {k : Nat} (c n : Int) (o : List It) (hk : k < L.length) : readI c n o (L.take (k + 1)) = if n = c ∨ c < L[k].v then joinL (readI c n o (L.take k)) [L[k]] else readI c n o (L.take k) := by
  unfold readI
  rw [List.take_succ_eq_append_getElem hk, List.foldl_append]
  rfl
theorem readI_len (c n : Int) : ∀ (L o : List It), (readI c n o L).length ≤ o.length + L.length := by
  intro L
  induction L with
  | nil => intro o; exact Nat.le_refl _
  | cons x L ih =>
    intro o
    unfold readI at ih ⊢
    rw [List.foldl_cons]
    have h1 := ih (if n = c ∨ c < x.v then joinL o [x] else o)
    have h2 : (if n = c ∨ c < x.v then joinL o [x] else o).length ≤ o.length + 1 := by
      split
      · exact joinL_len o [x]
      · omega
    rw [List.length_cons]
    omega
theorem readM_len (c : Int) (m : Nat) : ∀ (G : List Mg), (∀ g ∈ G, g.L.length ≤ m) → (readM c G).length ≤ G.length * m := by
  unfold readM
  suffices h : ∀ (G : List Mg) (o : List It), (∀ g ∈ G, g.L.length ≤ m) → (G.foldl (fun o g => readI c g.n o g.L) o).length ≤ o.length + G.length * m by
    intro G hG
    have := h G [] hG
    simpa using this
  intro G
  induction G with
  | nil => intro o _; simp
  | cons g G ih =>
    intro o hG
    rw [List.foldl_cons]
    have h1 := ih (readI c g.n o g.L) (fun x hx => hG x (List.mem_cons_of_mem _ hx))
    have h2 := readI_len c g.n g.L o
    have h4 := hG g (List.mem_cons_self ..)
    rw [List.length_cons, Nat.succ_mul]
    omega
set_option maxRecDepth 100000 in
set_option maxHeartbeats 6400000 in
theorem rread_any {w0 w : World} {D : Nat → Prop} {p cb : Nat} {vg : Value} {G : List Mg} (hp : p < w.heap.size) (hc12 : w.cell? ⟨p, 12, none⟩ = some vg) (hg : GotD w0 w D p cb vg G) (hlow : Below w0.heap.size w0 w) (hG : G.length ≤ 1000) (hL : ∀ g ∈ G, g.L.length ≤ 1000000) :
    Calls Tryz.prog 37 #[.pointer (some ⟨p, 0, none⟩)] w fun e w' => ∃ v, e = .returned v ∧ Sl w' v (readM (certM G) G) ∧ Below w.heap.size w w' := by
  obtain ⟨Ag, cg, rfl, hrow, _, _, hrd, _⟩ := hg
  obtain ⟨n, hn⟩ : ∃ n, G.length = n := ⟨_, rfl⟩
  have hn1000 : n ≤ 1000 := by omega
  have HNL := hide hn
  have HROW := hide hrow
  have HRD := hide hrd
  have HLL := hide hL
  have HLOW := hide hlow
  rw [hn] at hc12
  have HCC : Hid (∀ W, Below w.heap.size w W → W.cell? ⟨p, 12, none⟩ = some (.slice Ag n cg) ∧ p < W.heap.size) := hide (fun W hW => ⟨keep_cell hW hc12 hp, Nat.lt_of_lt_of_le hp hW.size⟩)
  have c12 := hc12
  have lp := hp
  clear hp hc12 hrow hrd hL hlow hG hn
  go_enter Tryz.func37, Tryz.ntmps37
  go_upto_block 0 with fail
  go_cut [3] (fun v W => v = .int .u64 (certM G) ∧ Below w.heap.size w W)
  case first =>
    go_wp2_with fail
    go_loopw [3, 4] (fun v i wr => ∃ k : Nat, k ≤ n ∧ i = .int .i64 k ∧ v = .int .u64 (certM (G.take k)) ∧ Below w.heap.size w wr) (fun _ i _ => n - (intOf i).toNat)
    case atStart => exact ⟨0, by omega, rfl, rfl, Below.refl _ _⟩
    case round =>
      obtain ⟨k, hk, rfl, rfl, hbr⟩ := hrel
      have HB := hide hbr
      clear c12 lp
      obtain ⟨c12, lp⟩ := HCC.out _ hbr
      clear hbr
      by_cases hlt : k < n
      · have hkI : (k : Int) < (n : Int) := by omega
        have hk0 : (0 : Int) ≤ (k : Int) := by omega
        have hkN : k < G.length := by rw [HNL.out]; exact hlt
        obtain ⟨g, off, rfl, hgl, _, _, _, _, y4, y5⟩ := mg_row HROW.out HB.out hkN
        have hsn := certM_snoc hkN
        have lgr : g < wr.heap.size := Nat.lt_of_lt_of_le hgl HB.out.size
        generalize G[k] = y at *
        obtain ⟨ce, hce⟩ : ∃ ce, certM (G.take k) = ce := ⟨_, rfl⟩
        rw [hce] at hsn ⊢
        clear hce
        by_cases hc : y.n < ce
        · have hc2 : ¬ ce < y.n := by omega
          have HS : Hid (certM (G.take (k + 1)) = ce) := hide (by rw [hsn]; omega)
          clear hsn
          go_wp2_with fail
          go_roundw
          case rel => exact ⟨k + 1, by omega, by go_num, by rw [HS.out], HB.out⟩
          case measure => (simp [intOf] <;> omega)
        · have HS : Hid (certM (G.take (k + 1)) = y.n) := hide (by rw [hsn]; omega)
          clear hsn
          by_cases hc2 : ce < y.n
          · go_wp2_with fail
            go_roundw
            case rel => exact ⟨k + 1, by omega, by go_num, by rw [HS.out], HB.out⟩
            case measure => (simp [intOf] <;> omega)
          · obtain rfl : ce = y.n := by omega
            go_wp2_with fail
            go_roundw
            case rel => exact ⟨k + 1, by omega, by go_num, by rw [HS.out], HB.out⟩
            case measure => (simp [intOf] <;> omega)
      · obtain rfl : n = k := by omega
        have hkI : ¬ (n : Int) < (n : Int) := by omega
        have HS : Hid (G.take n = G) := hide (List.take_of_length_le (by rw [HNL.out]; exact Nat.le_refl _))
        go_wp2_with fail
        go_meet
        exact ⟨by rw [HS.out], HB.out⟩
  case rest =>
  obtain ⟨rfl, hbw⟩ := hcut
  obtain ⟨ce, hce⟩ : ∃ ce, certM G = ce := ⟨_, rfl⟩
  have HBW := hide hbw
  have HCE := hide hce
  rw [hce]
  clear hce hbw c12 lp
  go_upto_block 2 with fail
  go_cut [5] (fun v W => Sl W v (readM ce G) ∧ Below w.heap.size w W)
  case first =>
    go_wp2_with fail
    go_loopw [5, 6] (fun v i wr => ∃ k : Nat, k ≤ n ∧ i = .int .i64 k ∧ Sl wr v (readM ce (G.take k)) ∧ Below w.heap.size w wr) (fun _ i _ => n - (intOf i).toNat)
    case atStart => exact ⟨0, by omega, rfl, Sl.nil_ _, HBW.out⟩
    case round =>
      obtain ⟨k, hk, rfl, hsl, hbr⟩ := hrel
      have HB := hide hbr
      have HSL := hide hsl
      obtain ⟨c12, lp⟩ := HCC.out _ hbr
      clear hbr hsl
      by_cases hlt : k < n
      · have hkI : (k : Int) < (n : Int) := by omega
        have hk0 : (0 : Int) ≤ (k : Int) := by omega
        have hkN : k < G.length := by rw [HNL.out]; exact hlt
        obtain ⟨g, off, rfl, hgl, _, _, _, _, y4, y5⟩ := mg_row HROW.out HB.out hkN
        have HSN := hide (readM_snoc ce hkN)
        have lgr : g < wr.heap.size := Nat.lt_of_lt_of_le hgl HB.out.size
        have HYR := hide (((HRD.out G[k] (List.getElem_mem _)).below HLOW.out).below HB.out)
        have HYL := hide (HLL.out G[k] (List.getElem_mem _))
        have HCY : Hid (∀ W, Below w.heap.size w W → W.cell? ⟨g, off + k * 6 + 4, none⟩ = some (.int .u64 G[k].n) ∧ g < W.heap.size) := hide (fun W hW => by
          obtain ⟨g', off', e, hgl', _, _, _, _, y4', _⟩ := mg_row HROW.out hW hkN
          injection e with e
          injection e with e1 e2 _
          subst e1 e2
          exact ⟨y4', Nat.lt_of_lt_of_le hgl' hW.size⟩)
        have HJL : Hid ((readM ce (G.take k)).length ≤ 1000000000) := hide (by
          have h1 := readM_len ce 1000000 (G.take k) (fun x hx => HLL.out x (List.mem_of_mem_take hx))
          have h2 : (G.take k).length ≤ 1000 := by rw [List.length_take]; omega
          have h3 := Nat.mul_le_mul_right 1000000 h2
          omega)
        generalize G[k] = y at *
        generalize readM ce (G.take k) = J at *
        go_upto_block 4 with fail
        clear c12 lp y4 y5 lgr
        have hyc : y.L.length ≤ y.c := HYR.out.2.1
        have hyl : y.L.length ≤ 1000000 := HYL.out
        have HYI := hide HYR.out.1
        obtain ⟨A, hA⟩ : ∃ A, y.A = A := ⟨_, rfl⟩
        obtain ⟨cc, hcc⟩ : ∃ cc, y.c = cc := ⟨_, rfl⟩
        obtain ⟨L, hL⟩ : ∃ L, y.L = L := ⟨_, rfl⟩
        rw [hA, hcc, hL]
        rw [hA, hL] at HYI
        rw [hcc, hL] at hyc
        have hycm := HYR.out.2.2
        rw [hcc] at hycm
        rw [hL] at hyl
        have HLY := hide hL
        clear hA hcc hL
        have hcc0 : (0 : Int) ≤ (cc : Int) := by omega
        obtain ⟨wo, rfl⟩ : ∃ wo, wo = wr := ⟨_, rfl⟩
        go_wp2_with fail
        go_loopw [5, 8] (fun v j wr => ∃ q : Nat, q ≤ L.length ∧ j = .int .i64 q ∧ Sl wr v (readI ce y.n J (L.take q)) ∧ Below wo.heap.size wo wr) (fun _ j _ => L.length - (intOf j).toNat)
        case atStart => exact ⟨0, by omega, rfl, HSL.out, Below.refl _ _⟩
        case round =>
          obtain ⟨q, hq, rfl, hsq, hbq⟩ := hrel
          have HSQ := hide hsq
          have HBQ := hide hbq
          obtain ⟨c12, lp⟩ := HCC.out _ (below_step HB.out hbq)
          obtain ⟨y4, lgr⟩ := HCY.out _ (below_step HB.out hbq)
          clear hsq hbq
          by_cases hql : q < L.length
          · have hqI : (q : Int) < (L.length : Int) := by omega
            have hq0 : (0 : Int) ≤ (q : Int) := by omega
            obtain ⟨bl, ofs, rfl, hbb, z0, z1, z2, z3, z4⟩ := ItemsAt.item HYI.out HBQ.out hql
            have lbl : bl < wr.heap.size := Nat.lt_of_lt_of_le hbb HBQ.out.size
            have HZ := hide (Sl.mk_ (c := cc - q) (item_row lbl z0 z1 z2 z3 z4) (by simp; omega) (by omega))
            have HRS := hide (readI_snoc ce y.n J hql)
            have HQL : Hid ((readI ce y.n J (L.take q)).length ≤ 2000000000) := hide (by
              have h1 := readI_len ce y.n (L.take q) J
              have h2 : (L.take q).length ≤ 1000000 := by rw [List.length_take]; omega
              have h3 := HJL.out
              omega)
            generalize L[q] = z at *
            generalize readI ce y.n J (L.take q) = Q at *
            by_cases hcz : y.n = ce
            · have hczI : (y.n == ce) = true := beq_iff_eq.2 hcz
              have HRS2 := hide (HRS.out.trans (if_pos (.inl hcz)))
              clear hcz HRS
              have hqle := HQL.out
              have HJ := hide (rjoin_sl HSQ.out HZ.out (by omega) (by simp))
              go_wp2_with fail
              refine (Calls.mono HJ.out ?_); rintro e w5 ⟨v5, rfl, hs5, hb5⟩
              have HS5 := hide hs5
              have HB5 := hide (below_step HBQ.out hb5)
              clear hs5 hb5 HJ hqle
              go_wp2_with fail
              go_roundw
              case rel => exact ⟨q + 1, by omega, by go_num, by rw [HRS2.out]; exact HS5.out, HB5.out⟩
              case measure => (simp [intOf] <;> omega)
            · have hczI : (y.n == ce) = false := beq_eq_false_iff_ne.2 hcz
              by_cases hv : ce < z.v
              · have HRS2 := hide (HRS.out.trans (if_pos (.inr hv)))
                clear hcz HRS
                have hqle := HQL.out
                have HJ := hide (rjoin_sl HSQ.out HZ.out (by omega) (by simp))
                go_wp2_with fail
                refine (Calls.mono HJ.out ?_); rintro e w5 ⟨v5, rfl, hs5, hb5⟩
                have HS5 := hide hs5
                have HB5 := hide (below_step HBQ.out hb5)
                clear hs5 hb5 HJ hqle
                go_wp2_with fail
                go_roundw
                case rel => exact ⟨q + 1, by omega, by go_num, by rw [HRS2.out]; exact HS5.out, HB5.out⟩
                case measure => (simp [intOf] <;> omega)
              · have HRS2 := hide (HRS.out.trans (if_neg (fun e => e.elim hcz hv)))
                clear hcz HRS z0 z1 z2 z4
                go_wp2_with fail
                go_roundw
                case rel => exact ⟨q + 1, by omega, by go_num, by rw [HRS2.out]; exact HSQ.out, HBQ.out⟩
                case measure => (simp [intOf] <;> omega)
          · obtain rfl : q = L.length := by omega
            have hqI : ¬ (L.length : Int) < (L.length : Int) := by omega
            have HF : Hid (L.take L.length = L) := hide (List.take_of_length_le (Nat.le_refl _))
            have HSF : Hid (readM ce (G.take (k + 1)) = readI ce y.n J L) := hide (by rw [HSN.out, HLY.out])
            rw [HF.out] at HSQ
            go_wp2_with fail
            go_roundw
            case rel => exact ⟨k + 1, by omega, by go_num, by rw [HSF.out]; exact HSQ.out, below_step HB.out HBQ.out⟩
            case measure => (simp [intOf] <;> omega)
      · obtain rfl : n = k := by omega
        have hkI : ¬ (n : Int) < (n : Int) := by omega
        have HS : Hid (G.take n = G) := hide (List.take_of_length_le (by rw [HNL.out]; exact Nat.le_refl _))
        rw [HS.out] at HSL
        go_wp2_with fail
        go_meet
        exact ⟨HSL.out, HB.out⟩
  case rest =>
  obtain ⟨hsl, hb2⟩ := hcut
  obtain ⟨A, c, rfl, hr, h1, h2⟩ := hsl
  have HSL := hide (Sl.mk_ hr h1 h2)
  have HB2 := hide hb2
  clear hr h1 h2 hb2
  go_wp2_with fail
  go_ret
  exact ⟨.slice A (readM ce G).length c, rfl, by rw [HCE.out]; exact HSL.out, HB2.out⟩
theorem OwnL.og_sl {base : Nat} {w : World} {v : Value} {L : List It} (h : Ow base w v L) : Sl w v L := by
  obtain ⟨A, c, rfl, hr, _, h1, h2⟩ := OwnL.row It.cells_len h
  exact Sl.mk_ hr h1 h2
/-- A call that has ended; its items. -/
def endK (K : Cs) (ee vv : Int) : Cs := { K with dn := true, aid := K.id, ack := K.ck, acs := K.cs, act := K.ct, acv := K.cv, ae := ee, av := vv, AL := [] }
noncomputable def itemsK (G : List Mg) (s : Int) : List It := (readM (certM G) G).filter (serP s)
noncomputable def endM (K : Cs) (ee vv : Int) : Cs := { endK K ee vv with AL := if ee = 0 ∧ K.ck = 3 then itemsK K.G K.cs else [] }
set_option maxRecDepth 100000 in
set_option maxHeartbeats 3200000 in
theorem rcend_any {w0 w : World} {D : Nat → Prop} {p cb : Nat} {K : Cs} (h : CallD w0 w D p cb K) (hr : K.rd = false) (ee vv : Int) (hG : K.G.length ≤ 1000) (hL : ∀ g ∈ K.G, g.L.length ≤ 1000000) :
    Calls Tryz.prog 26 #[.pointer (some ⟨p, 0, none⟩), .int .i64 ee, .int .u64 vv] w fun e w' => e = .returned (.tuple #[]) ∧ CallD w0 w' (Xn D w w') p cb (endM K ee vv) ∧ Sets (fun g => g = p) w w' := by
  obtain ⟨vi, vg, va, hb, ⟨h1, h1f⟩, h2, h3, h3f⟩ := h.row
  have hpl := h.lt.1
  have hb1 := set_of_list (o := 14) hb (.bool true)
  have hs1 : Sets (fun c => c = p) w (w.setCell ⟨p, 14, none⟩ (.bool true)) := (Sets.refl (S := fun c => c = p) w).set (g := p) (fun _ => rfl) 14 _
  have c14 : w.cell? ⟨p, 14, none⟩ = some (.bool K.dn) := (cell_of_list (o := 14) hb).trans rfl
  have f14 : w.frozen? ⟨p, 14, none⟩ = false := by simp [World.frozen?, hb]
  obtain ⟨w1, hw1⟩ : ∃ w1, w.setCell ⟨p, 14, none⟩ (.bool true) = w1 := ⟨_, rfl⟩
  rw [hw1] at hb1 hs1
  have HW1 := hide hw1
  have HB1 := hide hb1
  have HS1 := hide hs1
  have HH := hide h
  have HGD := hide h2
  have HGL := hide hG
  have HLL := hide hL
  have hrl : (readM (certM K.G) K.G).length ≤ 1000000000 := by
    have h1 := readM_len (certM K.G) 1000000 K.G hL
    have h3 := Nat.mul_le_mul_right 1000000 hG
    omega
  obtain ⟨RL, hRL⟩ : ∃ RL, readM (certM K.G) K.G = RL := ⟨_, rfl⟩
  have HRLE := hide hRL
  have HRL : Hid (RL.length ≤ 1099511627776) := hide (by rw [← hRL]; omega)
  have HVI := hide (And.intro h1 h1f)
  clear hb1 hs1 hw1 h hb h1 h1f h2 h3 h3f hG hL hrl hRL
  go_enter Tryz.func26, Tryz.ntmps26
  go_upto_region 1 with fail
  rw [HW1.out]
  obtain ⟨ud, hud⟩ : ∃ ud, w1.drew = ud := ⟨_, rfl⟩
  have HUB : Hid (ud.heap[p]? = some (.cells ((csL K cb vi vg va).set 14 (.bool true)).toArray 49 (0, 0))) := hide (by rw [← hud]; exact HB1.out)
  have HSD : Hid (Sets (fun c => c = p) w ud) := hide (by rw [← hud]; exact HS1.out.drew)
  have HCU : Hid (∀ W : World, Below ud.heap.size ud W → W.cell? ⟨p, 0, none⟩ = some (.int .u64 K.id) ∧ W.cell? ⟨p, 4, none⟩ = some (.int .i64 K.ck) ∧ W.cell? ⟨p, 5, none⟩ = some (.int .i64 K.cs) ∧ W.cell? ⟨p, 6, none⟩ = some (.int .u64 K.ct) ∧ W.cell? ⟨p, 7, none⟩ = some (.int .i64 K.cv)) := hide (fun W hW => by
    have hk := (hW.block p (Array.getElem?_eq_some_iff.1 HUB.out).1).trans HUB.out
    exact ⟨(cell_of_list (o := 0) hk).trans rfl, (cell_of_list (o := 4) hk).trans rfl, (cell_of_list (o := 5) hk).trans rfl, (cell_of_list (o := 6) hk).trans rfl, (cell_of_list (o := 7) hk).trans rfl⟩)
  have HSU : Hid (ud.cell? ⟨p, 15, none⟩ = some (.int .u64 K.aid) ∧ ud.cell? ⟨p, 16, none⟩ = some (.int .i64 K.ack) ∧ ud.cell? ⟨p, 17, none⟩ = some (.int .i64 K.acs) ∧ ud.cell? ⟨p, 18, none⟩ = some (.int .u64 K.act) ∧ ud.cell? ⟨p, 19, none⟩ = some (.int .i64 K.acv) ∧ ud.cell? ⟨p, 20, none⟩ = some (.int .i64 K.ae) ∧ ud.cell? ⟨p, 21, none⟩ = some (.int .u64 K.av) ∧ ud.cell? ⟨p, 22, none⟩ = some (va)) := hide
    ⟨(cell_of_list (o := 15) HUB.out).trans rfl, (cell_of_list (o := 16) HUB.out).trans rfl, (cell_of_list (o := 17) HUB.out).trans rfl, (cell_of_list (o := 18) HUB.out).trans rfl, (cell_of_list (o := 19) HUB.out).trans rfl, (cell_of_list (o := 20) HUB.out).trans rfl, (cell_of_list (o := 21) HUB.out).trans rfl, (cell_of_list (o := 22) HUB.out).trans rfl⟩
  have HFU : Hid (∀ o, ud.frozen? ⟨p, o, none⟩ = false) := hide (fun o => by simp [World.frozen?, HUB.out])
  clear c14 f14 HW1 HB1 HS1
  refine j_startD [14] hud (by kernel_rfl) ?_
  clear hud
  refine' j_take (i := 0) (v := _) [12, 13, 14] ?hi0 (by kernel_rfl) (by kernel_rfl) (by kernel_rfl) (by kernel_rfl) (by kernel_rfl) (Or.inl ⟨?hw0, ?hy0⟩) ?rest0
  case hi0 => (simp only [List.getElem?_toArray, List.getElem?_cons_succ, List.getElem?_cons_zero]; rfl)
  case hw0 => rfl
  case hy0 => (intro w' hw'; go_simp; try with_reducible rfl)
  try simp only [Act.put, List.setIfInBounds_toArray, List.set_cons_zero, List.set_cons_succ]
  refine' j_take (i := 1) (v := _) [2, 3, 4, 11, 12, 13, 14] ?hi1 (by kernel_rfl) (by kernel_rfl) (by kernel_rfl) (by kernel_rfl) (by kernel_rfl) (Or.inl ⟨?hw1, ?hy1⟩) ?rest1
  case hi1 => (simp only [List.getElem?_toArray, List.getElem?_cons_succ, List.getElem?_cons_zero]; rfl)
  case hw1 => rfl
  case hy1 => (intro w' hw'; go_simp; try with_reducible rfl)
  try simp only [Act.put, List.setIfInBounds_toArray, List.set_cons_zero, List.set_cons_succ]
  refine' j_take (i := 2) (v := _) [3, 4, 11, 12, 13, 14] ?hi2 (by kernel_rfl) (by kernel_rfl) (by kernel_rfl) (by kernel_rfl) (by kernel_rfl) (Or.inl ⟨?hw2, ?hy2⟩) ?rest2
  case hi2 => (simp only [List.getElem?_toArray, List.getElem?_cons_succ, List.getElem?_cons_zero]; rfl)
  case hw2 => rfl
  case hy2 => (intro w' hw'; go_simp; try with_reducible rfl)
  try simp only [Act.put, List.setIfInBounds_toArray, List.set_cons_zero, List.set_cons_succ]
  refine' j_take (i := 3) (v := _) [4, 11, 12, 13, 14] ?hi3 (by kernel_rfl) (by kernel_rfl) (by kernel_rfl) (by kernel_rfl) (by kernel_rfl) (Or.inl ⟨?hw3, ?hy3⟩) ?rest3
  case hi3 => (simp only [List.getElem?_toArray, List.getElem?_cons_succ, List.getElem?_cons_zero]; rfl)
  case hw3 => rfl
  case hy3 => (intro w' hw'; go_simp; try with_reducible rfl)
  try simp only [Act.put, List.setIfInBounds_toArray, List.set_cons_zero, List.set_cons_succ]
  refine' j_take (i := 4) (v := _) [11, 12, 13, 14] ?hi4 (by kernel_rfl) (by kernel_rfl) (by kernel_rfl) (by kernel_rfl) (by kernel_rfl) (Or.inl ⟨?hw4, ?hy4⟩) ?rest4
  case hi4 => (simp only [List.getElem?_toArray, List.getElem?_cons_succ, List.getElem?_cons_zero]; rfl)
  case hw4 => rfl
  case hy4 => (intro w' hw'; obtain ⟨j0, j4, j5, j6, j7⟩ := HCU.out _ hw'; go_simp; try with_reducible rfl)
  try simp only [Act.put, List.setIfInBounds_toArray, List.set_cons_zero, List.set_cons_succ]
  refine' j_take (i := 5) (v := _) [6, 7, 8, 11, 12, 13, 14] ?hi5 (by kernel_rfl) (by kernel_rfl) (by kernel_rfl) (by kernel_rfl) (by kernel_rfl) (Or.inl ⟨?hw5, ?hy5⟩) ?rest5
  case hi5 => (simp only [List.getElem?_toArray, List.getElem?_cons_succ, List.getElem?_cons_zero]; rfl)
  case hw5 => rfl
  case hy5 => (intro w' hw'; go_simp; try with_reducible rfl)
  try simp only [Act.put, List.setIfInBounds_toArray, List.set_cons_zero, List.set_cons_succ]
  refine' j_take (i := 6) (v := _) [7, 8, 11, 12, 13, 14] ?hi6 (by kernel_rfl) (by kernel_rfl) (by kernel_rfl) (by kernel_rfl) (by kernel_rfl) (Or.inl ⟨?hw6, ?hy6⟩) ?rest6
  case hi6 => (simp only [List.getElem?_toArray, List.getElem?_cons_succ, List.getElem?_cons_zero]; rfl)
  case hw6 => rfl
  case hy6 => (intro w' hw'; go_simp; try with_reducible rfl)
  try simp only [Act.put, List.setIfInBounds_toArray, List.set_cons_zero, List.set_cons_succ]
  refine' j_take (i := 7) (v := _) [8, 11, 12, 13, 14] ?hi7 (by kernel_rfl) (by kernel_rfl) (by kernel_rfl) (by kernel_rfl) (by kernel_rfl) (Or.inl ⟨?hw7, ?hy7⟩) ?rest7
  case hi7 => (simp only [List.getElem?_toArray, List.getElem?_cons_succ, List.getElem?_cons_zero]; rfl)
  case hw7 => rfl
  case hy7 => (intro w' hw'; go_simp; try with_reducible rfl)
  try simp only [Act.put, List.setIfInBounds_toArray, List.set_cons_zero, List.set_cons_succ]
  refine' j_take (i := 8) (v := _) [11, 12, 13, 14] ?hi8 (by kernel_rfl) (by kernel_rfl) (by kernel_rfl) (by kernel_rfl) (by kernel_rfl) (Or.inl ⟨?hw8, ?hy8⟩) ?rest8
  case hi8 => (simp only [List.getElem?_toArray, List.getElem?_cons_succ, List.getElem?_cons_zero]; rfl)
  case hw8 => rfl
  case hy8 => (intro w' hw'; obtain ⟨j0, j4, j5, j6, j7⟩ := HCU.out _ hw'; go_simp; try with_reducible rfl)
  try simp only [Act.put, List.setIfInBounds_toArray, List.set_cons_zero, List.set_cons_succ]
  refine' j_take (i := 9) (v := _) [11, 12, 13, 14] ?hi9 (by kernel_rfl) (by kernel_rfl) (by kernel_rfl) (by kernel_rfl) (by kernel_rfl) (Or.inl ⟨?hw9, ?hy9⟩) ?rest9
  case hi9 => (simp only [List.getElem?_toArray, List.getElem?_cons_succ, List.getElem?_cons_zero]; rfl)
  case hw9 => rfl
  case hy9 => (intro w' hw'; go_simp; try with_reducible rfl)
  try simp only [Act.put, List.setIfInBounds_toArray, List.set_cons_zero, List.set_cons_succ]
  refine' j_take (i := 10) (v := _) [11, 12, 13, 14] ?hi10 (by kernel_rfl) (by kernel_rfl) (by kernel_rfl) (by kernel_rfl) (by kernel_rfl) (Or.inl ⟨?hw10, ?hy10⟩) ?rest10
  case hi10 => (simp only [List.getElem?_toArray, List.getElem?_cons_succ, List.getElem?_cons_zero]; rfl)
  case hw10 => rfl
  case hy10 => (intro w' hw'; go_simp; try with_reducible rfl)
  try simp only [Act.put, List.setIfInBounds_toArray, List.set_cons_zero, List.set_cons_succ]
  refine' j_take (i := 11) (v := _) [12, 13, 14] ?hi11 (by kernel_rfl) (by kernel_rfl) (by kernel_rfl) (by kernel_rfl) (by kernel_rfl) (Or.inl ⟨?hw11, ?hy11⟩) ?rest11
  case hi11 => (simp only [List.getElem?_toArray, List.getElem?_cons_succ, List.getElem?_cons_zero]; rfl)
  case hw11 => rfl
  case hy11 => (intro w' hw'; go_simp; try with_reducible rfl)
  try simp only [Act.put, List.setIfInBounds_toArray, List.set_cons_zero, List.set_cons_succ]
  refine' j_take (i := 12) (v := _) [13, 14] ?hi12 (by kernel_rfl) (by kernel_rfl) (by kernel_rfl) (by kernel_rfl) (by kernel_rfl) (Or.inl ⟨?hw12, ?hy12⟩) ?rest12
  case hi12 => (simp only [List.getElem?_toArray, List.getElem?_cons_succ, List.getElem?_cons_zero]; rfl)
  case hw12 => rfl
  case hy12 => (intro w' hw'; go_simp; try with_reducible rfl)
  try simp only [Act.put, List.setIfInBounds_toArray, List.set_cons_zero, List.set_cons_succ]
  refine' j_take (i := 13) (v := _) [14] ?hi13 (by kernel_rfl) (by kernel_rfl) (by kernel_rfl) (by kernel_rfl) (by kernel_rfl) (Or.inl ⟨?hw13, ?hy13⟩) ?rest13
  case hi13 => (simp only [List.getElem?_toArray, List.getElem?_cons_succ, List.getElem?_cons_zero]; rfl)
  case hw13 => rfl
  case hy13 => (intro w' hw'; go_simp; try with_reducible rfl)
  try simp only [Act.put, List.setIfInBounds_toArray, List.set_cons_zero, List.set_cons_succ]
  refine' wpAnyJ_last (i := 14) (o := _) (by kernel_rfl) ?ho14 (by kernel_rfl) (fun KK hK => ?step14)
  case ho14 => (simp only [List.getElem?_toArray, List.getElem?_cons_succ, List.getElem?_cons_zero]; rfl)
  obtain ⟨s0, s1, s2, s3, s4, s5, s6, s7⟩ := HSU.out
  have sf := HFU.out
  go_simp
  refine hK.out _ _ ?_
  clear hK KK s0 s1 s2 s3 s4 s5 s6 s7 sf
  try simp only [Act.put, List.setIfInBounds_toArray, List.set_cons_zero, List.set_cons_succ]
  refine wpAnyJ_done (by kernel_rfl) ?_ _
  refine NoPanic.normal ?_
  have hb8 := set_of_list (o := 22) (set_of_list (o := 21) (set_of_list (o := 20) (set_of_list (o := 19) (set_of_list (o := 18) (set_of_list (o := 17) (set_of_list (o := 16) (set_of_list (o := 15) HUB.out (.int .u64 K.id)) (.int .i64 K.ck)) (.int .i64 K.cs)) (.int .u64 K.ct)) (.int .i64 K.cv)) (.int .i64 ee)) (.int .u64 vv)) (.slice none 0 0)
  have hs8 : Sets (fun g => g = p) ud ((((((((ud.setCell ⟨p, 15, none⟩ (.int .u64 K.id)).setCell ⟨p, 16, none⟩ (.int .i64 K.ck)).setCell ⟨p, 17, none⟩ (.int .i64 K.cs)).setCell ⟨p, 18, none⟩ (.int .u64 K.ct)).setCell ⟨p, 19, none⟩ (.int .i64 K.cv)).setCell ⟨p, 20, none⟩ (.int .i64 ee)).setCell ⟨p, 21, none⟩ (.int .u64 vv)).setCell ⟨p, 22, none⟩ (.slice none 0 0)) := ((((((((Sets.refl (S := fun g => g = p) ud).set (g := p) (fun _ => rfl) 15 (.int .u64 K.id)).set (g := p) (fun _ => rfl) 16 (.int .i64 K.ck)).set (g := p) (fun _ => rfl) 17 (.int .i64 K.cs)).set (g := p) (fun _ => rfl) 18 (.int .u64 K.ct)).set (g := p) (fun _ => rfl) 19 (.int .i64 K.cv)).set (g := p) (fun _ => rfl) 20 (.int .i64 ee)).set (g := p) (fun _ => rfl) 21 (.int .u64 vv)).set (g := p) (fun _ => rfl) 22 (.slice none 0 0)
  obtain ⟨u8, hu8⟩ : ∃ u8, ((((((((ud.setCell ⟨p, 15, none⟩ (.int .u64 K.id)).setCell ⟨p, 16, none⟩ (.int .i64 K.ck)).setCell ⟨p, 17, none⟩ (.int .i64 K.cs)).setCell ⟨p, 18, none⟩ (.int .u64 K.ct)).setCell ⟨p, 19, none⟩ (.int .i64 K.cv)).setCell ⟨p, 20, none⟩ (.int .i64 ee)).setCell ⟨p, 21, none⟩ (.int .u64 vv)).setCell ⟨p, 22, none⟩ (.slice none 0 0)) = u8 := ⟨_, rfl⟩
  rw [hu8] at hb8 hs8
  rw [hu8]
  have hb8 : u8.heap[p]? = some (.cells (csL (endK K ee vv) cb vi vg (.slice none 0 0)).toArray 49 (0, 0)) := hb8
  have HB8 := hide hb8
  have HS8 := hide (HSD.out.trans hs8 (fun _ _ h => h))
  clear hs8 hu8 HCU HSU HFU
  -- the call, without its items
  have HD8 : Hid (CallD w0 u8 D p cb (endK K ee vv)) := hide (by
    have hh := HH.out
    have k := HS8.out
    exact ⟨⟨vi, vg, .slice none 0 0, HB8.out, ⟨sl_sets_ HVI.out.1 k (fun g hg e => (HVI.out.2 g hg).2.1 e), HVI.out.2⟩, got_setsD HGD.out k (fun g hg e => (HGD.out.far g hg).2.1 e), ⟨Sl.nil_ _, fun g hg => by cases hg⟩⟩, (k.block cb hh.lt.2 (fun e => hh.ne e.symm)).trans hh.cnt, Sets.below hh.low k (fun g e => by rw [e]; exact (hh.ds p hh.dp).1) hh.low.size, hh.dp, hh.dc, hh.ne, fun g hg => ⟨(hh.ds g hg).1, Nat.lt_of_lt_of_le (hh.ds g hg).2 k.size⟩⟩)
  have c3 : u8.cell? ⟨p, 3, none⟩ = some (.bool false) := by rw [← hr]; exact (cell_of_list (o := 3) hb8).trans rfl
  have c4 : u8.cell? ⟨p, 4, none⟩ = some (.int .i64 K.ck) := (cell_of_list (o := 4) hb8).trans rfl
  have HLP : Hid (p < u8.heap.size) := hide (Array.getElem?_eq_some_iff.1 hb8).1
  have lp := HLP.out
  have HFIN : Hid (¬ (ee = 0 ∧ K.ck = 3) → CallD w0 u8 (Xn D w u8) p cb (endM K ee vv)) := hide (fun hn => by
    have e1 : endM K ee vv = endK K ee vv := by unfold endM; rw [if_neg hn]; rfl
    rw [e1]
    exact HD8.out.more (fun g hg => .inl hg) (fun g hg => by
      rcases hg with hg | hg
      · exact HD8.out.ds g hg
      · exact ⟨Nat.le_trans HH.out.low.size hg.1, hg.2⟩))
  clear hb8 hr
  by_cases he : ee = 0
  · have heI : (ee == 0) = true := beq_iff_eq.2 he
    by_cases hk : K.ck = 3
    · have hkI : (K.ck == 3) = true := beq_iff_eq.2 hk
      have HEM : Hid (endM K ee vv = { endK K ee vv with AL := itemsK K.G K.cs }) := hide (by unfold endM; rw [if_pos ⟨he, hk⟩])
      have HIT : Hid (itemsK K.G K.cs = RL.filter (serP K.cs)) := hide (by unfold itemsK; rw [HRLE.out])
      clear he hk HFIN
      go_upto_region 3 with fail
      clear c3 c4 lp
      obtain ⟨vd, hvd⟩ : ∃ vd, u8.drew = vd := ⟨_, rfl⟩
      have HVD : Hid (Below u8.heap.size u8 vd) := hide (by rw [← hvd]; exact (Below.refl _ _).drew)
      have HC5 : Hid (∀ W : World, Below u8.heap.size u8 W → W.cell? ⟨p, 5, none⟩ = some (.int .i64 K.cs)) := hide (fun W hW => (cell_of_list (o := 5) ((hW.block p HLP.out).trans HB8.out)).trans rfl)
      have HRD : Hid (∀ W : World, Below u8.heap.size u8 W → Calls Tryz.prog 37 #[.pointer (some ⟨p, 0, none⟩)] W fun e w' => ∃ v, e = .returned v ∧ Sl w' v RL ∧ Below W.heap.size W w') := hide (fun W hW => by
        have h9 := HD8.out.below hW
        rw [← HRLE.out]
        exact rread_any (w0 := w0) (D := D) (cb := cb) (vg := vg) h9.lt.1 ((cell_of_list (o := 12) ((hW.block p HLP.out).trans HB8.out)).trans rfl) (got_setsD (got_setsD HGD.out HS8.out (fun g hg e => (HGD.out.far g hg).2.1 e)) (Sets.of (S := fun _ => False) hW) (fun _ _ h => h)) h9.low HGL.out HLL.out)
      refine j_startD [12] hvd (by kernel_rfl) ?_
      clear hvd
      refine' j_take (i := 0) (v := _) [9, 10, 11, 12] ?hi0b (by kernel_rfl) (by kernel_rfl) (by kernel_rfl) (by kernel_rfl) (by kernel_rfl) (Or.inl ⟨?hw0b, ?hy0b⟩) ?rest0b
      case hi0b => (simp only [List.getElem?_toArray, List.getElem?_cons_succ, List.getElem?_cons_zero]; rfl)
      case hw0b => rfl
      case hy0b => (intro w' hw'; go_simp; try with_reducible rfl)
      try simp only [Act.put, List.setIfInBounds_toArray, List.set_cons_zero, List.set_cons_succ]
      refine' j_take (i := 1) (v := _) [2, 8, 9, 10, 11, 12] ?hi1b (by kernel_rfl) (by kernel_rfl) (by kernel_rfl) (by kernel_rfl) (by kernel_rfl) (Or.inl ⟨?hw1b, ?hy1b⟩) ?rest1b
      case hi1b => (simp only [List.getElem?_toArray, List.getElem?_cons_succ, List.getElem?_cons_zero]; rfl)
      case hw1b => rfl
      case hy1b => (intro w' hw'; go_simp; try with_reducible rfl)
      try simp only [Act.put, List.setIfInBounds_toArray, List.set_cons_zero, List.set_cons_succ]
      refine' j_take (i := 3) (v := _) [4, 5, 6, 7, 8, 9, 10, 11, 12] ?hi3b (by kernel_rfl) (by kernel_rfl) (by kernel_rfl) (by kernel_rfl) (by kernel_rfl) (Or.inl ⟨?hw3b, ?hy3b⟩) ?rest3b
      case hi3b => (simp only [List.getElem?_toArray, List.getElem?_cons_succ, List.getElem?_cons_zero]; rfl)
      case hw3b => rfl
      case hy3b => (intro w' hw'; go_simp; try with_reducible rfl)
      try simp only [Act.put, List.setIfInBounds_toArray, List.set_cons_zero, List.set_cons_succ]
      refine' j_take (i := 4) (v := _) [5, 6, 7, 8, 9, 10, 11, 12] ?hi4b (by kernel_rfl) (by kernel_rfl) (by kernel_rfl) (by kernel_rfl) (by kernel_rfl) (Or.inl ⟨?hw4b, ?hy4b⟩) ?rest4b
      case hi4b => (simp only [List.getElem?_toArray, List.getElem?_cons_succ, List.getElem?_cons_zero]; rfl)
      case hw4b => rfl
      case hy4b => (intro w' hw'; go_simp; try with_reducible rfl)
      try simp only [Act.put, List.setIfInBounds_toArray, List.set_cons_zero, List.set_cons_succ]
      refine' j_take (i := 5) (v := _) [6, 7, 8, 9, 10, 11, 12] ?hi5b (by kernel_rfl) (by kernel_rfl) (by kernel_rfl) (by kernel_rfl) (by kernel_rfl) (Or.inl ⟨?hw5b, ?hy5b⟩) ?rest5b
      case hi5b => (simp only [List.getElem?_toArray, List.getElem?_cons_succ, List.getElem?_cons_zero]; rfl)
      case hw5b => rfl
      case hy5b => (intro w' hw'; go_simp; try with_reducible rfl)
      try simp only [Act.put, List.setIfInBounds_toArray, List.set_cons_zero, List.set_cons_succ]
      refine' j_take (i := 6) (v := _) [7, 8, 9, 10, 11, 12] ?hi6b (by kernel_rfl) (by kernel_rfl) (by kernel_rfl) (by kernel_rfl) (by kernel_rfl) (Or.inl ⟨?hw6b, ?hy6b⟩) ?rest6b
      case hi6b => (simp only [List.getElem?_toArray, List.getElem?_cons_succ, List.getElem?_cons_zero]; rfl)
      case hw6b => rfl
      case hy6b => (intro w' hw'; go_simp; try with_reducible rfl)
      try simp only [Act.put, List.setIfInBounds_toArray, List.set_cons_zero, List.set_cons_succ]
      refine' j_take (i := 7) (v := _) [8, 9, 10, 11, 12] ?hi7b (by kernel_rfl) (by kernel_rfl) (by kernel_rfl) (by kernel_rfl) (by kernel_rfl) (Or.inl ⟨?hw7b, ?hy7b⟩) ?rest7b
      case hi7b => (simp only [List.getElem?_toArray, List.getElem?_cons_succ, List.getElem?_cons_zero]; rfl)
      case hw7b => rfl
      case hy7b => (intro w' hw'; have j5 := HC5.out _ (below_step HVD.out hw'); go_simp; try with_reducible rfl)
      try simp only [Act.put, List.setIfInBounds_toArray, List.set_cons_zero, List.set_cons_succ]
      refine' wpAnyJ_step (i := 2) (o := _) (by kernel_rfl) ?ho2b (fun KK hK => ?step2b)
      case ho2b => (simp only [List.getElem?_toArray, List.getElem?_cons_succ, List.getElem?_cons_zero]; rfl)
      go_simp
      refine (Calls.mono (HRD.out _ HVD.out) ?_); rintro e u1 ⟨vr, rfl, hor, gg⟩
      obtain ⟨Ar, cr, rfl, hrr, hc1r, hc2r⟩ := hor
      have HGG1 := hide gg
      have HSE := hide (rseries_any Ar cr RL K.cs u1 hrr HRL.out)
      clear hrr hc1r hc2r
      refine hK.out _ _ gg (j_switch gg ?_)
      clear hK KK gg
      try simp only [Act.put, List.setIfInBounds_toArray, List.set_cons_zero, List.set_cons_succ]
      refine' wpAnyJ_step (i := 8) (o := _) (by kernel_rfl) ?ho8b (fun KK hK => ?step8b)
      case ho8b => (simp only [List.getElem?_toArray, List.getElem?_cons_succ, List.getElem?_cons_zero]; rfl)
      go_simp
      refine (Calls.mono (HSE.out) ?_); rintro e u2 ⟨vs, rfl, hos, gg⟩
      obtain ⟨As, cs, rfl, _, _, _⟩ := OwnL.row It.cells_len hos
      have HOS := hide hos
      have HGG2 := hide gg
      have hb0 := ((below_step HGG1.out gg).block p (Nat.lt_of_lt_of_le HLP.out HVD.out.size)).trans ((HVD.out.block p HLP.out).trans HB8.out)
      have k22 := (cell_of_list (o := 22) hb0).trans rfl
      have z22 : u2.frozen? ⟨p, 22, none⟩ = false := (by simp [World.frozen?, hb0])
      have HB0 := hide hb0
      clear hos hb0
      refine hK.out _ _ gg (j_switch gg ?_)
      clear hK KK gg
      try simp only [Act.put, List.setIfInBounds_toArray, List.set_cons_zero, List.set_cons_succ]
      refine' j_take (i := 9) (v := _) [10, 11, 12] ?hi9b (by kernel_rfl) (by kernel_rfl) (by kernel_rfl) (by kernel_rfl) (by kernel_rfl) (Or.inl ⟨?hw9b, ?hy9b⟩) ?rest9b
      case hi9b => (simp only [List.getElem?_toArray, List.getElem?_cons_succ, List.getElem?_cons_zero]; rfl)
      case hw9b => rfl
      case hy9b => (intro w' hw'; go_simp; try with_reducible rfl)
      try simp only [Act.put, List.setIfInBounds_toArray, List.set_cons_zero, List.set_cons_succ]
      refine' j_take (i := 10) (v := _) [11, 12] ?hi10b (by kernel_rfl) (by kernel_rfl) (by kernel_rfl) (by kernel_rfl) (by kernel_rfl) (Or.inl ⟨?hw10b, ?hy10b⟩) ?rest10b
      case hi10b => (simp only [List.getElem?_toArray, List.getElem?_cons_succ, List.getElem?_cons_zero]; rfl)
      case hw10b => rfl
      case hy10b => (intro w' hw'; go_simp; try with_reducible rfl)
      try simp only [Act.put, List.setIfInBounds_toArray, List.set_cons_zero, List.set_cons_succ]
      refine' j_take (i := 11) (v := _) [12] ?hi11b (by kernel_rfl) (by kernel_rfl) (by kernel_rfl) (by kernel_rfl) (by kernel_rfl) (Or.inl ⟨?hw11b, ?hy11b⟩) ?rest11b
      case hi11b => (simp only [List.getElem?_toArray, List.getElem?_cons_succ, List.getElem?_cons_zero]; rfl)
      case hw11b => rfl
      case hy11b => (intro w' hw'; go_simp; try with_reducible rfl)
      try simp only [Act.put, List.setIfInBounds_toArray, List.set_cons_zero, List.set_cons_succ]
      refine' wpAnyJ_last (i := 12) (o := _) (by kernel_rfl) ?ho12b (by kernel_rfl) (fun KK hK => ?step12b)
      case ho12b => (simp only [List.getElem?_toArray, List.getElem?_cons_succ, List.getElem?_cons_zero]; rfl)
      have k22 : u2.cell? ⟨p, 22, none⟩ = some (.slice none 0 0) := k22
      go_simp
      refine hK.out _ _ ?_
      clear hK KK k22 z22
      try simp only [Act.put, List.setIfInBounds_toArray, List.set_cons_zero, List.set_cons_succ]
      refine wpAnyJ_done (by kernel_rfl) ?_ _
      refine NoPanic.normal ?_
      have hs9 : Sets (fun g => g = p) u2 (u2.setCell ⟨p, 22, none⟩ (.slice As (RL.filter (serP K.cs)).length cs)) := (Sets.refl (S := fun g => g = p) u2).set (g := p) (fun _ => rfl) 22 _
      have HB9 := hide (set_of_list (o := 22) HB0.out (.slice As (RL.filter (serP K.cs)).length cs))
      have HF : Hid (CallD w0 (u2.setCell ⟨p, 22, none⟩ (.slice As (RL.filter (serP K.cs)).length cs)) (Xn D w (u2.setCell ⟨p, 22, none⟩ (.slice As (RL.filter (serP K.cs)).length cs))) p cb (endM K ee vv) ∧ Sets (fun g => g = p) w (u2.setCell ⟨p, 22, none⟩ (.slice As (RL.filter (serP K.cs)).length cs))) := hide (by
        have hb82 : Below u8.heap.size u8 u2 := below_step HVD.out (below_step HGG1.out HGG2.out)
        have h2 := HD8.out.below hb82
        have hst := (HS8.out.trans (Sets.of (S := fun g => g = p) hb82) (fun _ _ h => h)).trans hs9 (fun _ _ h => h)
        have hof := HOS.out
        have hu1 : w.heap.size ≤ u1.heap.size := Nat.le_trans (Nat.le_trans HS8.out.size HVD.out.size) HGG1.out.size
        have hlp := HH.out.lt.1
        have hxw : ∀ g, (Value.slice As (RL.filter (serP K.cs)).length cs).ownBlock = some g → w.heap.size ≤ g ∧ g < u2.heap.size := fun g hg => by
          have h5 := OwnL.lt hof g hg
          exact ⟨Nat.le_trans hu1 h5.1, h5.2⟩
        have hsl := sl_sets_ (OwnL.og_sl hof) hs9 (fun g hg e => by have := (hxw g hg).1; omega)
        have hlt2 := HH.out.lt
        obtain ⟨vi', vg', va', q1, ⟨q2, q2f⟩, q3, _⟩ := h2.row
        refine ⟨⟨⟨vi, vg, .slice As (RL.filter (serP K.cs)).length cs, ?_, ?_, ?_, ?_⟩, ?_, ?_, .inl h2.dp, .inl h2.dc, h2.ne, ?_⟩, hst⟩
        · rw [HEM.out]; exact HB9.out
        · exact ⟨by rw [HEM.out]; exact sl_sets_ (sl_sets_ (sl_sets_ HVI.out.1 HS8.out (fun g hg e => (HVI.out.2 g hg).2.1 e)) (Sets.of (S := fun _ => False) hb82) (fun _ _ h => h)) hs9 (fun g hg e => (HVI.out.2 g hg).2.1 e), HVI.out.2.up (fun g hg => .inl hg)⟩
        · rw [HEM.out]; exact (got_setsD (got_setsD (got_setsD HGD.out HS8.out (fun g hg e => (HGD.out.far g hg).2.1 e)) (Sets.of (S := fun _ => False) hb82) (fun _ _ h => h)) hs9 (fun g hg e => (HGD.out.far g hg).2.1 e)).up (fun g hg => .inl hg)
        · refine ⟨by rw [HEM.out]; show Sl _ _ (itemsK K.G K.cs); rw [HIT.out]; exact hsl, fun g hg => ⟨.inr ⟨(hxw g hg).1, Nat.lt_of_lt_of_le (hxw g hg).2 hs9.size⟩, fun e => ?_, fun e => ?_⟩⟩
          · have := (hxw g hg).1; omega
          · have := (hxw g hg).1; omega
        · rw [HEM.out]; exact (hs9.block cb h2.lt.2 (fun e => h2.ne e.symm)).trans h2.cnt
        · exact Sets.below h2.low hs9 (fun g e => by rw [e]; exact (h2.ds p h2.dp).1) h2.low.size
        · intro g hg
          rcases hg with hg | hg
          · exact ⟨(h2.ds g hg).1, Nat.lt_of_lt_of_le (h2.ds g hg).2 hs9.size⟩
          · exact ⟨Nat.le_trans HH.out.low.size hg.1, hg.2⟩)
      clear hs9
      go_wp2_with fail
      go_end0
      exact ⟨rfl, HF.out.1, HF.out.2⟩
    · have hkI : (K.ck == 3) = false := beq_eq_false_iff_ne.2 hk
      have HF := hide (HFIN.out (fun e => hk e.2))
      clear he hk HFIN
      go_wp2_with fail
      go_end0
      exact ⟨rfl, HF.out, HS8.out⟩
  · have heI : (ee == 0) = false := beq_eq_false_iff_ne.2 he
    have HF := hide (HFIN.out (fun e => he e.1))
    clear he HFIN
    go_wp2_with fail
    go_end0
    exact ⟨rfl, HF.out, HS8.out⟩
end Go.Proofs.YtlabpgdimhbocaaGreat
