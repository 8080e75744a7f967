/- The net's calls beside what clepsydralaw21.NetPlays keeps, and what its own stores make of it: contracts. Conditions: PlH, as it stands at the call. -/
import Derived.Test.YtihhepojhoaacaaNetQ
namespace Go.Proofs.Ytihhepojhoaacaa
set_option linter.unusedVariables false
set_option linter.unusedSimpArgs false
open Go.ChangeShapes Go.WideShapes Go.ChangeAt Go.RowKit
section
variable {w0 w w' : World} {b m c6 c l s : Nat} {rb : Option Nat} {A : Option Addr} {W C : List Mg} {nl ns : Int}
theorem take_pl {w1 : World} (h : PlH w0 w1 b rb m c6 A c W l s C nl ns) (hb : Below w1.heap.size w1 w) {gq : Nat} (hq : w1.heap.size ≤ gq) (hz : w.heap[gq]? = some (.cells #[.int .i64 0, .int .i64 0, .int .i64 0, .int .u64 0, .int .u64 0, .slice none 0 0] 28 (0, 0))) (i : Nat) (hi : i < C.length) :
    Calls Try.prog 10 #[.pointer (some ⟨b, 0, none⟩), .int .i64 i] w fun e w' => ∃ (x : Mg) (rb' : Option Nat), e = .returned (.tuple #[x.val, .bool true]) ∧ x.bare = C[i]'hi ∧ w'.heap[gq]? = some (.cells #[.int .i64 0, .int .i64 0, .int .i64 0, .int .u64 0, .int .u64 0, .slice none 0 0] 28 (0, 0)) ∧
      (∀ w'', Sets (fun g => g = gq) w' w'' → x.rd w'' ∧ PlH w0 w'' b rb' m c6 A c W l s (C.eraseIdx i) nl ns) ∧ Sets (NBlk b rb) w w' := by
  have hrl := h.net.at_.row_lt
  have hbl := h.net.at_.lt
  have hq2 := (Array.getElem?_eq_some_iff.1 hz).1
  have hN : NetO (fun g => FrP c6 A g ∧ g ≠ gq) w0 w b rb m C nl ns := h.net.far (S := fun _ => False) (Sets.of hb) (fun h => h) (fun _ _ h => h) (fun g hg hf _ => ⟨fun h => h, hf, fun e => by omega⟩) (fun g h => h.elim)
  refine Calls.mono (take_o hN i hi) ?_
  rintro e w' ⟨x, rb', rfl, hx, hr, hN', hS, hM⟩
  have hnq : ¬ NBlk b rb gq := fun e => by
    rcases e with e | e
    · omega
    · have := (hrl _ e).2; omega
  have hz' := (hS.block gq hq2 hnq).trans hz
  refine ⟨x, rb', rfl, hx, hz', fun w'' hk => ⟨hr.sets hk (fun a ha hn => items_not_msg hz' hr.1 a ha hn), ?_⟩, hS⟩
  have hrb' : ∀ g, rb' = some g → ¬ g = gq := fun g hg e => by
    rcases hM with e1 | ⟨q, hq', e1⟩
    · have := (hrl g (by rw [← e1]; exact hg)).2; omega
    · rw [e1] at hg
      have := Option.some.inj hg
      omega
  have hlow := h.net.low.size
  have hN'' : NetO (FrP c6 A) w0 w'' b rb' m (C.eraseIdx i) nl ns := hN'.far hk (by omega) hrb' (fun g _ hf _ => ⟨hf.2, hf.1⟩) (fun g e => by omega)
  refine h.netStep hN'' (((Sets.of (S := NBlk b rb) hb).trans hS (fun _ _ h => h)).trans hk (fun i hi e => absurd e (by omega))) ?_
  rcases hM with e1 | ⟨q, hq', e1⟩
  · exact .inl e1
  · exact .inr ⟨q, Nat.le_trans hb.size hq', e1⟩
theorem drop_pl (h : PlH w0 w b rb m c6 A c W l s C nl ns) (i : Nat) (hi : i < C.length) (hl : 0 ≤ nl ∧ nl ≤ 1099511627776) :
    Calls Try.prog 14 #[.pointer (some ⟨b, 0, none⟩), .int .i64 i] w fun e w' => ∃ rb', e = .returned (.bool true) ∧ PlH w0 w' b rb' m c6 A c W l s (C.eraseIdx i) (nl + 1) ns ∧ Sets (NBlk b rb) w w' :=
  Calls.mono (drop_o h.net i hi hl) (by rintro e w' ⟨rb', rfl, h1, h2, h3⟩; exact ⟨rb', rfl, h.netStep h1 h2 h3, h2⟩)
theorem double_pl (h : PlH w0 w b rb m c6 A c W l s C nl ns) (i : Nat) (hi : i < C.length) (hC : C.length ≤ 100000) (hl : 0 ≤ nl ∧ nl ≤ 1099511627776) (hs : 0 ≤ ns ∧ ns ≤ 1099511627776) :
    Calls Try.prog 15 #[.pointer (some ⟨b, 0, none⟩), .int .i64 i] w fun e w' => ∃ rb', e = .returned (.bool true) ∧ PlH w0 w' b rb' m c6 A c W l s (sendC m C (C[i]'hi)) (nl + sendL m C) (ns + 1) ∧ Sets (NBlk b rb) w w' :=
  Calls.mono (double_o (fun g hg => ⟨by have := h.lt; omega, fun a ha => by have := (h.blk a ha).2.1; omega⟩) h.net i hi hC hl hs) (by rintro e w' ⟨rb', rfl, h1, h2, h3⟩; exact ⟨rb', rfl, h.netStep h1 h2 h3, h2⟩)
theorem turn_pl (h : PlH w0 w b rb m c6 A c W l s C nl ns) (i k : Nat) (hi : i < C.length) (hk : k < C.length) :
    Calls Try.prog 16 #[.pointer (some ⟨b, 0, none⟩), .int .i64 i, .int .i64 k] w fun e w' => e = .returned (.bool true) ∧ PlH w0 w' b rb m c6 A c W l s ((C.set i (C[k]'hk)).set k (C[i]'hi)) nl ns ∧ Sets (NBlk b rb) w w' :=
  Calls.mono (turn_o h.net i k hi hk) (by rintro e w' ⟨rfl, h1, h2⟩; exact ⟨rfl, h.netStep h1 h2 (.inl rfl), h2⟩)
/-- One more is lost. -/
theorem PlH.lost1 (h : PlH w0 w b rb m c6 A c W l s C nl ns) : PlH w0 (w.setCell ⟨c6 + 2, 0, none⟩ (.int .i64 ((l + 1 : Nat) : Int))) b rb m c6 A c W (l + 1) s C nl ns := by
  have hs : Sets (fun k => k = c6 + 1 ∨ k = c6 + 2 ∨ k = c6 + 3) w (w.setCell ⟨c6 + 2, 0, none⟩ (.int .i64 ((l + 1 : Nat) : Int))) := (Sets.refl (S := fun k => k = c6 + 1 ∨ k = c6 + 2 ∨ k = c6 + 3) w).set (g := c6 + 2) (fun _ => .inr (.inl rfl)) 0 _
  have hk : ∀ j, j ≠ c6 + 2 → (w.setCell ⟨c6 + 2, 0, none⟩ (.int .i64 ((l + 1 : Nat) : Int))).heap[j]? = w.heap[j]? := fun j hj => Below.heap_setCell w ⟨c6 + 2, 0, none⟩ _ j (fun e => hj (by simpa using e))
  refine h.put hs ((hk _ (by omega)).trans h.b7) ?_ ((hk _ (by omega)).trans h.b9) (h.row.sets hs (fun a ha _ e => by have := (h.blk a ha).1; omega)) h.cap (.inl rfl) h.rd
  simp [World.setCell, Array.getElem?_modify, h.b8]
/-- A list that was made new is stored as the law's own. -/
theorem PlH.renew (h : PlH w0 w b rb m c6 A c W l s C nl ns) {base n' : Nat} {A' : Option Addr} {c' : Nat} {N : List Mg} {u : World} (hu : Below w.heap.size w u) (ho : OwnL Mg.cells 6 28 base u (.slice A' n' c') N) (hn : N.length = n') (hbase : w.heap.size ≤ base) (hc : n' ≤ c' ∧ c' ≤ maxLen) (hrd : ∀ x ∈ N, x.rd w0) :
    PlH w0 (u.setCell ⟨c6 + 1, 0, none⟩ (.slice A' n' c')) b rb m c6 A' c' N l s C nl ns := by
  subst hn
  have hl := h.lt
  have hs : Sets (fun k => k = c6 + 1 ∨ k = c6 + 2 ∨ k = c6 + 3) w (u.setCell ⟨c6 + 1, 0, none⟩ (.slice A' N.length c')) := (Sets.of (S := fun k => k = c6 + 1 ∨ k = c6 + 2 ∨ k = c6 + 3) hu).set (g := c6 + 1) (fun _ => .inl rfl) 0 _
  have hk : ∀ j, j < w.heap.size → j ≠ c6 + 1 → (u.setCell ⟨c6 + 1, 0, none⟩ (.slice A' N.length c')).heap[j]? = w.heap[j]? := fun j hj hj2 => (Below.heap_setCell u ⟨c6 + 1, 0, none⟩ _ j (fun e => hj2 (by simpa using e))).trans (hu.block j hj)
  have hob : (Value.slice A' N.length c').ownBlock ≠ some (c6 + 1) := fun e => by have := (OwnL.lt ho _ e).1; omega
  have ho2 := OwnL.setFar ho hob (o := 0) (.slice A' N.length c')
  obtain ⟨Az, cz, ez, hrz, hbz, _⟩ := OwnL.row Mg.cells_len ho2
  injection ez with e1
  subst e1
  have b7u := (hu.block (c6 + 1) (by omega)).trans h.b7
  refine h.put hs ?_ ((hk _ (by omega) (by omega)).trans h.b8) ((hk _ (by omega) (by omega)).trans h.b9) hrz hc (.inr fun a ha => ?_) hrd
  · simp [World.setCell, Array.getElem?_modify, b7u]
  · rcases ho2.2 with ⟨e0, _⟩ | ⟨g, cap, cur, ev, hgb, hgh, _⟩
    · injection e0 with e1
      rw [e1] at ha
      cases ha
    · injection ev with e1
      rw [e1] at ha
      obtain rfl := Option.some.inj ha
      exact ⟨Nat.le_trans hbase hgb, (Array.getElem?_eq_some_iff.1 hgh).1, fun o => by simp [World.frozen?, hgh]⟩
/-- One element of a row written in place. -/
theorem row_put6 {g off : Nat} {M : List Mg} (h : RowAt Mg.cells 6 w (some ⟨g, off, none⟩) M) {k : Nat} (hk : k < M.length) (x : Mg) : RowAt Mg.cells 6 (w.setCells g (off + k * 6) (Mg.cells x)) (some ⟨g, off, none⟩) (M.set k x) := fun hn => by
  have hM : M ≠ [] := fun e => by rw [e] at hk; simp at hk
  obtain ⟨g', off', e, hlt, hc⟩ := h hM
  obtain ⟨rfl, rfl⟩ : g = g' ∧ off = off' := by injection e with h; injection h; exact ⟨by assumption, by assumption⟩
  have hlen : (Mg.cells x).length = 6 := Mg.cells_len x
  have hsz : (w.setCells g (off + k * 6) (Mg.cells x)).heap.size = w.heap.size := by simp [Mg.cells, World.setCells, World.setCell]
  refine ⟨g, off, rfl, by rw [hsz]; exact hlt, fun i hi j u hu => ?_⟩
  have hi2 : i < M.length := by rw [List.length_set] at hi; exact hi
  have hj : j < 6 := by
    have := (List.getElem?_eq_some_iff.1 hu).1
    rw [Mg.cells_len] at this
    exact this
  by_cases e : i = k
  · subst e
    rw [List.getElem_set_self] at hu
    have h1 := World.cell?_setCells_in g (Mg.cells x) (off + i * 6) w (fun j hj => by
      rw [hlen] at hj
      have : (Mg.cells (M[i]'hi2))[j]? = some ((Mg.cells (M[i]'hi2))[j]'(by rw [Mg.cells_len]; exact hj)) := List.getElem?_eq_getElem _
      rw [hc i hi2 j _ this]
      rfl) j (by rw [hlen]; exact hj)
    rw [h1]
    have h2 := (List.getElem?_eq_some_iff.1 hu).2
    rw [h2]
  · rw [List.getElem_set_ne (fun e' => e e'.symm)] at hu
    rw [World.cell?_setCells_out g (Mg.cells x) (off + k * 6) w _ (fun _ _ => ?_)]
    · exact hc i hi2 j u hu
    · rw [hlen]
      simp only
      rcases Nat.lt_or_gt_of_ne e with h1 | h1
      · left; omega
      · right; omega
theorem row6o {g off : Nat} {M : List Mg} (h : RowAt Mg.cells 6 w (some ⟨g, off, none⟩) M) {t : Nat} (ht : t < M.length) : w.cell? ⟨g, off + t * 6, none⟩ = some (.int .i64 M[t].k) ∧ w.cell? ⟨g, off + t * 6 + 1, none⟩ = some (.int .i64 M[t].f) ∧ w.cell? ⟨g, off + t * 6 + 2, none⟩ = some (.int .i64 M[t].t) ∧ w.cell? ⟨g, off + t * 6 + 3, none⟩ = some (.int .u64 M[t].id) ∧ w.cell? ⟨g, off + t * 6 + 4, none⟩ = some (.int .u64 M[t].n) ∧ w.cell? ⟨g, off + t * 6 + 5, none⟩ = some (.slice M[t].A M[t].L.length M[t].c) := by
  obtain ⟨g', off', e, _, hc⟩ := h.at_ ht
  obtain ⟨rfl, rfl⟩ : g = g' ∧ off = off' := by injection e with h; injection h; exact ⟨by assumption, by assumption⟩
  have hx : ∀ j u, (Mg.cells M[t])[j]? = some u → w.cell? ⟨g, off + t * 6 + j, none⟩ = some u := fun j u hu => hc t ht j u hu
  exact ⟨by simpa using hx 0 _ rfl, hx 1 _ rfl, hx 2 _ rfl, hx 3 _ rfl, hx 4 _ rfl, hx 5 _ rfl⟩
end
end Go.Proofs.Ytihhepojhoaacaa
