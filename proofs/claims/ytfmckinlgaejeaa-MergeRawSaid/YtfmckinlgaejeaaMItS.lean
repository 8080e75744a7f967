/- merge.Iter: Seek, New: contracts. Conditions: typed at each. -/
import Derived.Test.YtfmckinlgaejeaaMItN
import Derived.Test.YtfmckinlgaejeaaClone
import Derived.Test.YtfmckinlgaejeaaLRows
namespace Go.Proofs.Ytfmckinlgaejeaa
set_option linter.unusedVariables false
set_option linter.unusedSimpArgs false
open Go.ChangeShapes Go.WideShapes Go.ChangeAt Go.RowKit

theorem app_ssJ (u : World) (base : Nat) (v : Value) (L : List (Sv It)) (hown : OwS base u v L) (A : Option Addr) (c : Nat) (M : List (Sv It)) (hr : RowAt svC 1 u A M) (hn : L.length + M.length ≤ 1000000) (hbase : base ≤ u.heap.size) :
    ∃ v' w', (Builtin.append_ #[23, 23] 23 #[v, .slice A M.length c]).run Try.prog u = .ok v' w' ∧ OwS base w' v' (L ++ M) ∧ u.grownBy w' v.ownBlock ∧ (v'.ownBlock = v.ownBlock ∨ v'.ownBlock = some u.heap.size) := by
  obtain ⟨i0, hi, hz0, hz1, hz2⟩ := info_parts Try.infoItems
  exact run_append_row (P := Try.prog) u base 23 23 22 i0 _ 1 24 Try.underlying23 hi hz0 hz1 hz2 rfl (by omega) (fun _ => rfl) v L hown A c M hr (rows_none hr) (fun m _ => svC_one m) (by simp only [maxLen]; omega) (by omega) hbase
theorem step_app_ssJ {ops : Array Oper} {o : Oper} {a : Act} {u : World} {K : Act → World → Prop} {Q : Exit → Act → World → Prop} {E : Prop} (hgd : o.guard = none) (s x : Operand)
    (ho : o.op = .call { callee := .builtin .append, args := #[s, x], argTypes := #[23, 23] }) (hty : o.type = 23)
    (base : Nat) (v : Value) (L : List (Sv It)) (hs : a.eval s = v) (hown : OwS base u v L) (A : Option Addr) (c n : Nat) (M : List (Sv It)) (hM : M.length = n) (hx : a.eval x = .slice A n c) (hr : RowAt svC 1 u A M) (hn : L.length + n ≤ 1000000) (hbase : base ≤ u.heap.size)
    (h : ∀ v' w', OwS base w' v' (L ++ M) → u.grownBy w' v.ownBlock → (v'.ownBlock = v.ownBlock ∨ v'.ownBlock = some u.heap.size) → K (a.put o.dst v') w') : if Region.wanted o (yielded ops a.tmps) = true then Oper.wp Try.prog o a u K Q else E := by
  subst hM
  have hw : Region.wanted o (yielded ops a.tmps) = true := by simp [Region.wanted, hgd]
  rw [if_pos hw]
  obtain ⟨v', w', hrun, h2, h3, h4⟩ := app_ssJ u base v L hown A c M hr hn hbase
  unfold Oper.wp execOp
  simp only [ho, hty, resolve, invoke, builtin, Sem.run_bind, Sem.run_pure, Result.andThen_ok, List.map_toArray, List.map_cons, List.map_nil, hs, hx, hrun]
  exact h v' w' h2 h3 h4

theorem low_here {x : It} {M : List It} {j : Nat} (hj : j < M.length) (h : ∀ i (hi : i < M.length), i < j → ltB M[i] x = true) (hf : ltB M[j] x = false) : lowI x M = j := by
  rcases Nat.lt_trichotomy (lowI x M) j with h1 | h1 | h1
  · have := low_at x M (by omega)
    rw [h _ _ h1] at this
    cases this
  · exact h1
  · have := low_lt x M j hj h1
    rw [hf] at this
    cases this
set_option maxRecDepth 100000 in
set_option maxHeartbeats 3200000 in
theorem itseek_any (b : Nat) (M : List It) (n : Int) (x : It) (w : World) (hI : Itr w b M n) :
    Calls Try.prog 19 #[.pointer (some ⟨b, 0, none⟩), x.val] w fun e w' => e = .returned (.tuple #[]) ∧ ItO w' b M (lowI x M) ∧ Sets (fun c => c = b) w w' := by
  have hba := below_alloc (Below.refl w.heap.size w) (.cells #[.int .i64 x.s, .int .i64 x.k, .int .u64 x.t, .int .u64 x.v, .int .i64 x.x] 28)
  have hlb := hI.lt
  have hgn := heap_alloc_new w (.cells #[.int .i64 x.s, .int .i64 x.k, .int .u64 x.t, .int .u64 x.v, .int .i64 x.x] 28)
  have hgl : w.heap.size < (w.alloc (.cells #[.int .i64 x.s, .int .i64 x.k, .int .u64 x.t, .int .u64 x.v, .int .i64 x.x] 28)).heap.size := by simp
  have hs0 : Sets (fun c => c = b) w (w.alloc (.cells #[.int .i64 x.s, .int .i64 x.k, .int .u64 x.t, .int .u64 x.v, .int .i64 x.x] 28)) := Sets.of hba
  have HO := hide (itopen_any b M n _ (hI.below hba))
  obtain ⟨w1, hw1⟩ : ∃ w1, w.alloc (.cells #[.int .i64 x.s, .int .i64 x.k, .int .u64 x.t, .int .u64 x.v, .int .i64 x.x] 28) = w1 := ⟨_, rfl⟩
  rw [hw1] at hgn hgl hs0 HO
  have hne : ¬ w.heap.size = b := by omega
  have HS0 := hide hs0
  have HGN := hide hgn
  clear hI hba hs0 hgn
  go_enter Try.func19, Try.ntmps19
  go_upto_region 1 with fail
  try rw [hw1]
  go_wp2_with fail
  refine (Calls.mono HO.out ?_); rintro e w2 ⟨rfl, hO, hs, hav⟩
  have HG2 := hide ((hs.block _ hgl hne).trans HGN.out)
  have HS2 := hide (HS0.out.trans hs (fun _ _ h => h))
  clear HO hw1 HGN HS0 hav hs hgl hlb
  obtain ⟨g, hgg⟩ : ∃ g, w.heap.size = g := ⟨_, rfl⟩
  rw [hgg] at HG2 hne ⊢
  clear hgg
  have HO2 := hide (hO.put 0)
  obtain ⟨A0, n0, c0, A, c, h1, h2, h3, h4⟩ := hO.at_
  obtain ⟨hbl, ⟨q0, q1, q2, q3, q4, q5⟩, hz⟩ := it_box h1
  have hz5 := hz 5
  unfold maxLen at h4
  have hM63 : (M.length : Int) ≤ 9223372036854775807 := by omega
  have HS3 : Hid (Sets (fun c => c = b) w (w2.setCell ⟨b, 5, none⟩ (.int .i64 0))) := hide (HS2.out.trans ((Sets.refl (S := fun c => c = b) w2).set (g := b) (fun _ => rfl) 5 _) (fun _ _ h => h))
  have HG3 : Hid ((w2.setCell ⟨b, 5, none⟩ (.int .i64 0)).heap[g]? = some (.cells #[.int .i64 x.s, .int .i64 x.k, .int .u64 x.t, .int .u64 x.v, .int .i64 x.x] 28 (0, 0))) := hide (((Sets.refl (S := fun c => c = b) w2).set (g := b) (fun _ => rfl) 5 _).block g (Array.getElem?_eq_some_iff.1 HG2.out).1 hne |>.trans HG2.out)
  clear hO h1 h2 h3 h4 q0 q1 q2 q3 q4 hz HG2 HS2
  go_upto_region 2 with fail
  go_wp2_with fail
  go_loopg [] (lowI x M) (fun k wr => ∃ j : Nat, j + k = lowI x M ∧ ItO wr b M j ∧ wr.heap[g]? = some (.cells #[.int .i64 x.s, .int .i64 x.k, .int .u64 x.t, .int .u64 x.v, .int .i64 x.x] 28 (0, 0)) ∧ Sets (fun c => c = b) w wr)
  case atStart => exact ⟨0, by omega, HO2.out, HG3.out, HS3.out⟩
  case round =>
    clear HO2 HG3 HS3 hbl q5 hz5
    obtain ⟨j, hj, hO, hg, hs⟩ := hrel
    have hll := low_le x M
    obtain ⟨A0, n0, c0, A, c, h1, h2, h3, h4⟩ := hO.at_
    obtain ⟨hbl, ⟨q0, q1, q2, q3, q4, q5⟩, hz⟩ := it_box h1
    obtain ⟨z0, z1, z2, z3, z4⟩ := box_item (x := x) hg
    have hgw : g < wr.heap.size := (Array.getElem?_eq_some_iff.1 hg).1
    have hz5 := hz 5
    have HOO := hide hO
    have HG := hide hg
    have HS := hide hs
    have hlA : ∀ i (hi : i < M.length), i < j → ltB M[i] x = true := fun i hi hij => low_lt x M i hi (by omega)
    have HLA := hide hlA
    have rq4 := fun s : Near wr => s.cell q4 hbl
    have rq5 := fun s : Near wr => s.cell q5 hbl
    have rz0 := fun s : Near wr => s.cell z0 hgw
    have rz1 := fun s : Near wr => s.cell z1 hgw
    have rz2 := fun s : Near wr => s.cell z2 hgw
    have rz3 := fun s : Near wr => s.cell z3 hgw
    have rz4 := fun s : Near wr => s.cell z4 hgw
    clear hO hg hs hlA h1 q0 q1 q2 q3 hz h3 h4
    by_cases hjl : j < M.length
    · obtain ⟨bi, oi, rfl, hbi, y0, y1, y2, y3, y4⟩ := ItemsAt.item h2 (Below.refl _ _) hjl
      have hltj := low_lt x M j hjl
      have HLE := hide (low_here hjl HLA.out)
      have HNL : Hid (ltB M[j] x = true → j < lowI x M) := hide (fun h => by
        rcases Nat.lt_or_ge j (lowI x M) with h1 | h1
        · exact h1
        · have e : lowI x M = j := by omega
          have := low_at x M (by omega)
          simp only [e] at this
          rw [h] at this
          cases this)
      have HLS := hide (fun W => pless_any M[j] x W)
      have hjI : (j : Int) < (M.length : Int) := by omega
      have hd : decide ((j : Int) < (M.length : Int)) = true := decide_eq_true hjI
      have hj0 : (0 : Int) ≤ (j : Int) := by omega
      have hwr : IntKind.i64.wrap ((j : Int) + 1) = (j : Int) + 1 := by rw [IntKind.wrap_i64]; omega
      have hwr0 : IntKind.i64.wrap (j : Int) = (j : Int) := by rw [IntKind.wrap_i64]; omega
      have ry0 := fun s : Near wr => s.cell y0 hbi
      have ry1 := fun s : Near wr => s.cell y1 hbi
      have ry2 := fun s : Near wr => s.cell y2 hbi
      have ry3 := fun s : Near wr => s.cell y3 hbi
      have ry4 := fun s : Near wr => s.cell y4 hbi
      have HJ := hide hj
      clear h2 hltj hj hll
      generalize M[j] = y at *
      clear hjl
      cases hl : ltB y x with
      | true =>
        rw [hl] at HLS HLE HNL
        clear hl
        go_wp2_with fail
        refine wp_region_near (by kernel_rfl) (by kernel_rfl) ?_
        repeat (go_big_quiet_step ((first | (go_at_call 25; exact near_of (HLS.out _)))))
        refine wpQuiet_nil ?_
        intro _ hw'
        obtain ⟨s1, rfl⟩ := hw'
        have hs5 := s1.cell q5 hbl
        have hf5 : s1.at_.frozen? ⟨b, 5, none⟩ = false := (s1.is.frozen (p := ⟨b, 5, none⟩) hbl).trans hz5
        have HOK : Hid (ItO (s1.at_.setCell ⟨b, 5, none⟩ (.int .i64 ((j : Int) + 1))) b M ((j : Int) + 1)) := hide ((HOO.out.below s1.is).put _)
        have hst1 : Sets (fun c => c = b) wr (s1.at_.setCell ⟨b, 5, none⟩ (.int .i64 ((j : Int) + 1))) := (show Sets (fun c => c = b) wr s1.at_ from Sets.of s1.is).set (fun _ => rfl) 5 _
        have HGK2 := hide ((hst1.block g hgw hne).trans HG.out)
        have HSK := hide (HS.out.trans hst1 (fun _ _ h => h))
        clear ry0 ry1 ry2 ry3 ry4 rz0 rz1 rz2 rz3 rz4 rq4 rq5 y0 y1 y2 y3 y4 z0 z1 z2 z3 z4 q4 q5 hst1 hwr0 hd hjI
        go_wp2_with fail
        go_roundg (lowI x M - (j + 1))
        case measure => (have := HJ.out; have := HNL.out trivial; omega)
        case rel => exact ⟨j + 1, (by have := HNL.out trivial; omega), HOK.out, HGK2.out, HSK.out⟩
      | false =>
        rw [hl] at HLS HLE HNL
        clear hl
        go_wp2_with fail
        refine wp_region_near (by kernel_rfl) (by kernel_rfl) ?_
        repeat (go_big_quiet_step ((first | (go_at_call 25; exact near_of (HLS.out _)))))
        refine wpQuiet_nil ?_
        intro _ hw'
        obtain ⟨s1, rfl⟩ := hw'
        clear ry0 ry1 ry2 ry3 ry4 rz0 rz1 rz2 rz3 rz4 rq4 rq5 y0 y1 y2 y3 y4 z0 z1 z2 z3 z4 q4 q5 hwr hwr0 hd hjI
        have HOK : Hid (ItO s1.at_ b M (lowI x M)) := hide (by rw [HLE.out trivial]; exact HOO.out.below s1.is)
        have HSK := hide (HS.out.trans (show Sets (fun c => c = b) wr s1.at_ from Sets.of s1.is) (fun _ _ h => h))
        go_wp2_with fail
        go_end0
        exact ⟨rfl, HOK.out, HSK.out⟩
    · have hjI : ¬ (j : Int) < (M.length : Int) := by omega
      have hd : decide ((j : Int) < (M.length : Int)) = false := decide_eq_false hjI
      have HLE : Hid (lowI x M = j) := hide (by omega)
      clear h2 hj hll
      go_wp2_with fail
      refine wp_region_near (by kernel_rfl) (by kernel_rfl) ?_
      repeat (go_big_quiet_step (fail))
      refine wpQuiet_nil ?_
      intro _ hw'
      obtain ⟨s1, rfl⟩ := hw'
      clear rz0 rz1 rz2 rz3 rz4 rq4 rq5 z0 z1 z2 z3 z4 q4 q5 hd hjI
      have HOK : Hid (ItO s1.at_ b M (lowI x M)) := hide (by rw [HLE.out]; exact HOO.out.below s1.is)
      have HSK := hide (HS.out.trans (show Sets (fun c => c = b) wr s1.at_ from Sets.of s1.is) (fun _ _ h => h))
      go_wp2_with fail
      go_end0
      exact ⟨rfl, HOK.out, HSK.out⟩
end Go.Proofs.Ytfmckinlgaejeaa
