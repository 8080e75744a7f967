/- clepsydra/tree.Differ, Same: contracts. Conditions: the trees as they lie, or none. -/
import Derived.Test.YthpbohheddkfiaaTNode
namespace Go.Proofs.Ythpbohheddkfiaa
set_option linter.unusedVariables false
set_option linter.unusedSimpArgs false
open Go.ChangeShapes Go.WideShapes Go.ChangeAt Go.RowKit

/-- The leaves below a place where two trees differ all the way. -/
def difL (E : Nat → Nat → Bool) : Nat → Nat → List Nat
  | 0, i => if E 0 i then [] else [i]
  | k + 1, i => if E (k + 1) i then [] else difL E k (2 * i) ++ difL E k (2 * i + 1)
theorem difL_len (E : Nat → Nat → Bool) : ∀ l i, (difL E l i).length ≤ 2 ^ l
  | 0, i => by unfold difL; split <;> simp
  | k + 1, i => by
    have h1 := difL_len E k (2 * i)
    have h2 := difL_len E k (2 * i + 1)
    unfold difL
    split
    · simp
    · rw [List.length_append, Nat.pow_succ]; omega
def ptrV (p : Option Nat) : Value := .pointer (p.map fun a => ⟨a, 0, none⟩)
/-- Whether a sum of two trees is the same; of none and another it is not. -/
def sameN (pa pb : Option Nat) (F G : Nat → List It) (l i : Nat) : Bool := pa.isSome && pb.isSome && decide (nodeT F l i = nodeT G l i)
theorem Sets.mono_ {S T : Nat → Prop} {w w' : World} (h : Sets S w w') (hS : ∀ g, g < w.heap.size → S g → T g) : Sets T w w' := ⟨h.os, h.tape, h.output, h.size, fun b hb hn => h.block b hb (fun s => hn (hS b hb s))⟩
/-- Some blocks turned, none of them a tree's. -/
theorem TreeO.other {w0 w w' : World} {b : Nat} {F : Nat → List It} (h : TreeO w0 w b F) {X : Nat → Prop} (k : Sets X w w') (hb : ¬ X b) (h0 : ∀ g, X g → w0.heap.size ≤ g) (hX : ∀ g, g < w.heap.size → X g → ∃ a ty fr, w.heap[g]? = some (.cells a ty fr) ∧ 33 ≠ ty ∧ 28 ≠ ty) : TreeO w0 w' b F := by
  obtain ⟨S, d, U, hx, hR, hU⟩ := h.row
  refine ⟨⟨S, d, U, (k.block b h.lt hb).trans hx, ⟨fun s hs => OwnL.sets (hR.own s hs) k (fun g hg e => ?_), hR.apart⟩, ?_⟩, h.wf, h.len, Sets.below h.low k h0 h.low.size, h.old⟩
  · obtain ⟨a, ty, fr, h1, h2, h3⟩ := hX g (OwnL.lt (hR.own s hs) g hg).2 e
    exact own_ne_ty (hR.own s hs) h1 h2 hg
  · rcases hU with hU | ⟨e, hU⟩
    · exact .inl hU
    · refine .inr ⟨e, ⟨fun s hs => OwnL.sets (hU.own s hs) k (fun g hg e => ?_), hU.apart⟩⟩
      obtain ⟨a, ty, fr, h1, h2, h3⟩ := hX g (OwnL.lt (hU.own s hs) g hg).2 e
      exact own_ne_ty (hU.own s hs) h1 h3 hg
/-- What look may turn, of what lies below its boxes. -/
def LkB (x : Nat) (pa pb : Option Nat) (g : Nat) : Prop := pa = some g ∨ pb = some g ∨ x ≤ g
/-- What look finds: its boxes at x (the trees), x + 2 (what it told), x + 3 (itself). -/
structure LkS (w0 w : World) (x : Nat) (pa pb : Option Nat) (F G : Nat → List It) (L : List Nat) : Prop where
  bA : w.heap[x]? = some (.cells #[ptrV pa] 25 (0, 0))
  bB : w.heap[x + 1]? = some (.cells #[ptrV pb] 25 (0, 0))
  bO : ∃ v, w.heap[x + 2]? = some (.cells #[v] 30 (0, 0)) ∧ OwnL (one1 natv) 1 3 (x + 4) w v L
  bL : w.heap[x + 3]? = some (.cells #[.func (.func 17) #[] #[.pointer (some ⟨x, 0, none⟩), .pointer (some ⟨x + 1, 0, none⟩), .pointer (some ⟨x + 2, 0, none⟩), .pointer (some ⟨x + 3, 0, none⟩)]] 58 (0, 0))
  ta : ∀ a, pa = some a → TreeO w0 w a F
  tc : ∀ c, pb = some c → TreeO w0 w c G
  ne : ∀ a, pa = some a → pb ≠ some a
  lt : (∀ a, pa = some a → a < x) ∧ (∀ c, pb = some c → c < x)
  old : w0.heap.size ≤ x
section
variable {w0 w w' : World} {x : Nat} {pa pb : Option Nat} {F G : Nat → List It} {L : List Nat}
theorem LkS.size (h : LkS w0 w x pa pb F G L) : x + 3 < w.heap.size := (Array.getElem?_eq_some_iff.1 h.bL).1
theorem LkS.below (h : LkS w0 w x pa pb F G L) (hb : Below w.heap.size w w') : LkS w0 w' x pa pb F G L := by
  have hs := h.size
  obtain ⟨v, h1, h2⟩ := h.bO
  exact ⟨(hb.block _ (by omega)).trans h.bA, (hb.block _ (by omega)).trans h.bB, ⟨v, (hb.block _ (by omega)).trans h1, OwnL.below h2 hb⟩, (hb.block _ (by omega)).trans h.bL, fun a ha => (h.ta a ha).below hb, fun c hc => (h.tc c hc).below hb, h.ne, h.lt, h.old⟩
/-- One of the trees is summed. -/
theorem LkS.summed (h : LkS w0 w x pa pb F G L) (t : Nat) (ht : pa = some t ∨ pb = some t) (k : Sets (fun g => g = t) w w') (ha : ∀ a, pa = some a → TreeO w0 w' a F) (hc : ∀ c, pb = some c → TreeO w0 w' c G) : LkS w0 w' x pa pb F G L := by
  have hs := h.size
  have htx : t < x := by
    rcases ht with e | e
    · exact h.lt.1 t e
    · exact h.lt.2 t e
  obtain ⟨v, h1, h2⟩ := h.bO
  exact ⟨(k.block _ (by omega) (by omega)).trans h.bA, (k.block _ (by omega) (by omega)).trans h.bB, ⟨v, (k.block _ (by omega) (by omega)).trans h1, OwnL.sets h2 k (fun g hg e => by have := (OwnL.lt h2 g hg).1; omega)⟩, (k.block _ (by omega) (by omega)).trans h.bL, ha, hc, h.ne, h.lt, h.old⟩
/-- One more is told. -/
theorem LkS.told (h : LkS w0 w x pa pb F G L) {v v' : Value} {u : World} {N : List Nat} (hv : w.heap[x + 2]? = some (.cells #[v] 30 (0, 0))) (ho : OwnL (one1 natv) 1 3 (x + 4) w v L) (hg : w.grownBy u v.ownBlock) (ho' : OwnL (one1 natv) 1 3 (x + 4) u v' N) : LkS w0 (u.setCell ⟨x + 2, 0, none⟩ v') x pa pb F G N ∧ Sets (LkB x pa pb) w (u.setCell ⟨x + 2, 0, none⟩ v') := by
  have hs := h.size
  have hk : ∀ g, v.ownBlock = some g → x + 4 ≤ g := fun g hg => (OwnL.lt ho g hg).1
  have s1 : Sets (fun g => v.ownBlock = some g ∨ g = x + 2) w u := (Sets.grown hg).mono_ (fun g _ h => .inl h)
  have s2 : Sets (fun g => v.ownBlock = some g ∨ g = x + 2) w (u.setCell ⟨x + 2, 0, none⟩ v') := s1.set (g := x + 2) (fun _ => .inr rfl) 0 v'
  have hn : ∀ j, j < x + 4 → j ≠ x + 2 → ¬ (v.ownBlock = some j ∨ j = x + 2) := fun j h1 h2 e => by
    rcases e with e | e
    · have := hk j e; omega
    · exact h2 e
  have hty : ∀ g, g < w.heap.size → (v.ownBlock = some g ∨ g = x + 2) → ∃ a ty fr, w.heap[g]? = some (.cells a ty fr) ∧ 33 ≠ ty ∧ 28 ≠ ty := fun g hgl e => by
    rcases e with e | rfl
    · rcases ho.2 with ⟨e0, _⟩ | ⟨g', cap, cur, ev, _, hh, _⟩
      · rw [e0] at e; cases e
      · rw [ev] at e
        obtain rfl := Option.some.inj e
        exact ⟨_, _, _, hh, by decide, by decide⟩
    · exact ⟨_, _, _, hv, by decide, by decide⟩
  have hge : ∀ g, (v.ownBlock = some g ∨ g = x + 2) → x + 2 ≤ g := fun g e => by
    rcases e with e | e
    · have := hk g e; omega
    · omega
  have hold := h.old
  have hz : u.heap[x + 2]? = some (.cells #[v] 30 (0, 0)) := (hg.block (x + 2) (by omega) (fun e => by have := hk _ e.symm; omega)).trans hv
  refine ⟨⟨(s2.block _ (by omega) (hn _ (by omega) (by omega))).trans h.bA, (s2.block _ (by omega) (hn _ (by omega) (by omega))).trans h.bB, ⟨v', by simp [World.setCell, Array.getElem?_modify, hz], OwnL.setFar ho' (fun e => by have := (OwnL.lt ho' _ e).1; omega) _⟩, (s2.block _ (by omega) (hn _ (by omega) (by omega))).trans h.bL,
    fun a ha => (h.ta a ha).other s2 (hn a (by have := h.lt.1 a ha; omega) (by have := h.lt.1 a ha; omega)) (fun g e => by have := hge g e; omega) hty,
    fun c hc => (h.tc c hc).other s2 (hn c (by have := h.lt.2 c hc; omega) (by have := h.lt.2 c hc; omega)) (fun g e => by have := hge g e; omega) hty, h.ne, h.lt, h.old⟩, s2.mono_ (fun g _ e => .inr (.inr (by have := hge g e; omega)))⟩
end
set_option maxRecDepth 100000 in
set_option maxHeartbeats 6400000 in
theorem look_any {w0 : World} {x : Nat} {pa pb : Option Nat} {F G : Nat → List It} : ∀ (l m : Nat), m = l → ∀ i : Nat, m ≤ 8 → i < 2 ^ (8 - m) → ∀ (w : World) (L : List Nat), L.length + 2 ^ m ≤ 4096 → LkS w0 w x pa pb F G L →
    Calls Try.prog 17 #[.int .i64 m, .int .i64 i, .pointer (some ⟨x, 0, none⟩), .pointer (some ⟨x + 1, 0, none⟩), .pointer (some ⟨x + 2, 0, none⟩), .pointer (some ⟨x + 3, 0, none⟩)] w fun e w' => e = .returned (.tuple #[]) ∧ LkS w0 w' x pa pb F G (L ++ difL (sameN pa pb F G) m i) ∧ Sets (LkB x pa pb) w w' := by
  intro l
  induction l with
  | zero =>
    intro m hm i hl hi w L hL h
    have HH := hide h
    have HM := hide hm
    have hl0I : (0 : Int) ≤ (i : Int) := by omega
    clear h hm
    go_enter Try.func17, Try.ntmps17
    go_upto_region 2 with fail
    go_cut [21] (fun v W => v = .bool (sameN pa pb F G m i) ∧ LkS w0 W x pa pb F G L ∧ Sets (LkB x pa pb) w W)
    case first =>
      clear hL
      cases hpa : pa with
      | none =>
        subst hpa
        refine j_startS [] (S := (fun W : World => W.cell? ⟨x, 0, none⟩ = some (.pointer none))) (by kernel_rfl) ?_
        obtain ⟨ud, hud⟩ : ∃ ud, w.drew = ud := ⟨_, rfl⟩
        have HH := hide (HH.out.below (by rw [← hud]; exact (Below.refl _ _).drew) : LkS w0 ud x none pb F G L)
        have HF : Hid (Sets (LkB x none pb) w ud) := hide (by rw [← hud]; exact (Sets.refl (S := LkB x none pb) w).drew)
        have HS : Hid ((fun W : World => W.cell? ⟨x, 0, none⟩ = some (.pointer none)) ud) := hide ((cell_of_row _ _ 0 _ _ _ HH.out.bA).trans rfl)
        rw [hud]
        clear hud
        refine' wpAnyJ_take (i := 0) (v := _) [] ?hi0n1nq (by kernel_rfl) (by kernel_rfl) (by kernel_rfl) (by kernel_rfl) (by kernel_rfl) (Or.inl ⟨?hw0n1nq, ?hy0n1nq⟩) HS.out ?rest0n1nq
        case hi0n1nq => (simp only [List.getElem?_toArray, List.getElem?_cons_succ, List.getElem?_cons_zero]; rfl)
        case hw0n1nq => rfl
        case hy0n1nq => (intro w' hw'; have h0 : w'.cell? ⟨x, 0, none⟩ = some (.pointer none) := hw'; go_simp; try with_reducible rfl)
        try simp only [Act.put, List.setIfInBounds_toArray, List.set_cons_zero, List.set_cons_succ]
        refine' wpAnyJ_take (i := 1) (v := _) [] ?hi1n2nq (by kernel_rfl) (by kernel_rfl) (by kernel_rfl) (by kernel_rfl) (by kernel_rfl) (Or.inl ⟨?hw1n2nq, ?hy1n2nq⟩) HS.out ?rest1n2nq
        case hi1n2nq => (simp only [List.getElem?_toArray, List.getElem?_cons_succ, List.getElem?_cons_zero]; rfl)
        case hw1n2nq => rfl
        case hy1n2nq => (intro w' hw'; go_simp; try with_reducible rfl)
        try simp only [Act.put, List.setIfInBounds_toArray, List.set_cons_zero, List.set_cons_succ]
        refine' wpAnyJ_take (i := 2) (v := _) [] ?hi2n3nq (by kernel_rfl) (by kernel_rfl) (by kernel_rfl) (by kernel_rfl) (by kernel_rfl) (Or.inl ⟨?hw2n3nq, ?hy2n3nq⟩) HS.out ?rest2n3nq
        case hi2n3nq => (simp only [List.getElem?_toArray, List.getElem?_cons_succ, List.getElem?_cons_zero]; rfl)
        case hw2n3nq => rfl
        case hy2n3nq => (intro w' hw'; go_simp; try with_reducible rfl)
        try simp only [Act.put, List.setIfInBounds_toArray, List.set_cons_zero, List.set_cons_succ]
        refine' wpAnyJ_take (i := 3) (v := _) [] ?hi3n4nq (by kernel_rfl) (by kernel_rfl) (by kernel_rfl) (by kernel_rfl) (by kernel_rfl) (Or.inr ⟨?hw3n4nq, rfl⟩) HS.out ?rest3n4nq
        case hi3n4nq => (simp only [List.getElem?_toArray, List.getElem?_cons_succ, List.getElem?_cons_zero]; rfl)
        case hw3n4nq => rfl
        try simp only [Act.put, List.setIfInBounds_toArray, List.set_cons_zero, List.set_cons_succ]
        refine' wpAnyJ_take (i := 4) (v := _) [] ?hi4n5nq (by kernel_rfl) (by kernel_rfl) (by kernel_rfl) (by kernel_rfl) (by kernel_rfl) (Or.inr ⟨?hw4n5nq, rfl⟩) HS.out ?rest4n5nq
        case hi4n5nq => (simp only [List.getElem?_toArray, List.getElem?_cons_succ, List.getElem?_cons_zero]; rfl)
        case hw4n5nq => rfl
        try simp only [Act.put, List.setIfInBounds_toArray, List.set_cons_zero, List.set_cons_succ]
        refine' wpAnyJ_take (i := 5) (v := _) [] ?hi5n6nq (by kernel_rfl) (by kernel_rfl) (by kernel_rfl) (by kernel_rfl) (by kernel_rfl) (Or.inl ⟨?hw5n6nq, ?hy5n6nq⟩) HS.out ?rest5n6nq
        case hi5n6nq => (simp only [List.getElem?_toArray, List.getElem?_cons_succ, List.getElem?_cons_zero]; rfl)
        case hw5n6nq => rfl
        case hy5n6nq => (intro w' hw'; go_simp; try with_reducible rfl)
        try simp only [Act.put, List.setIfInBounds_toArray, List.set_cons_zero, List.set_cons_succ]
        refine' wpAnyJ_take (i := 6) (v := _) [] ?hi6n7nq (by kernel_rfl) (by kernel_rfl) (by kernel_rfl) (by kernel_rfl) (by kernel_rfl) (Or.inl ⟨?hw6n7nq, ?hy6n7nq⟩) HS.out ?rest6n7nq
        case hi6n7nq => (simp only [List.getElem?_toArray, List.getElem?_cons_succ, List.getElem?_cons_zero]; rfl)
        case hw6n7nq => rfl
        case hy6n7nq => (intro w' hw'; go_simp; try with_reducible rfl)
        try simp only [Act.put, List.setIfInBounds_toArray, List.set_cons_zero, List.set_cons_succ]
        refine' wpAnyJ_take (i := 7) (v := _) [] ?hi7n8nq (by kernel_rfl) (by kernel_rfl) (by kernel_rfl) (by kernel_rfl) (by kernel_rfl) (Or.inr ⟨?hw7n8nq, rfl⟩) HS.out ?rest7n8nq
        case hi7n8nq => (simp only [List.getElem?_toArray, List.getElem?_cons_succ, List.getElem?_cons_zero]; rfl)
        case hw7n8nq => rfl
        try simp only [Act.put, List.setIfInBounds_toArray, List.set_cons_zero, List.set_cons_succ]
        refine' wpAnyJ_take (i := 8) (v := _) [] ?hi8n9nq (by kernel_rfl) (by kernel_rfl) (by kernel_rfl) (by kernel_rfl) (by kernel_rfl) (Or.inr ⟨?hw8n9nq, rfl⟩) HS.out ?rest8n9nq
        case hi8n9nq => (simp only [List.getElem?_toArray, List.getElem?_cons_succ, List.getElem?_cons_zero]; rfl)
        case hw8n9nq => rfl
        try simp only [Act.put, List.setIfInBounds_toArray, List.set_cons_zero, List.set_cons_succ]
        refine' wpAnyJ_take (i := 9) (v := _) [] ?hi9n10nq (by kernel_rfl) (by kernel_rfl) (by kernel_rfl) (by kernel_rfl) (by kernel_rfl) (Or.inr ⟨?hw9n10nq, rfl⟩) HS.out ?rest9n10nq
        case hi9n10nq => (simp only [List.getElem?_toArray, List.getElem?_cons_succ, List.getElem?_cons_zero]; rfl)
        case hw9n10nq => rfl
        try simp only [Act.put, List.setIfInBounds_toArray, List.set_cons_zero, List.set_cons_succ]
        refine' wpAnyJ_take (i := 10) (v := _) [] ?hi10n11nq (by kernel_rfl) (by kernel_rfl) (by kernel_rfl) (by kernel_rfl) (by kernel_rfl) (Or.inr ⟨?hw10n11nq, rfl⟩) HS.out ?rest10n11nq
        case hi10n11nq => (simp only [List.getElem?_toArray, List.getElem?_cons_succ, List.getElem?_cons_zero]; rfl)
        case hw10n11nq => rfl
        try simp only [Act.put, List.setIfInBounds_toArray, List.set_cons_zero, List.set_cons_succ]
        refine' wpAnyJ_take (i := 11) (v := _) [] ?hi11n12nq (by kernel_rfl) (by kernel_rfl) (by kernel_rfl) (by kernel_rfl) (by kernel_rfl) (Or.inr ⟨?hw11n12nq, rfl⟩) HS.out ?rest11n12nq
        case hi11n12nq => (simp only [List.getElem?_toArray, List.getElem?_cons_succ, List.getElem?_cons_zero]; rfl)
        case hw11n12nq => rfl
        try simp only [Act.put, List.setIfInBounds_toArray, List.set_cons_zero, List.set_cons_succ]
        refine' wpAnyJ_take (i := 12) (v := _) [] ?hi12n13nq (by kernel_rfl) (by kernel_rfl) (by kernel_rfl) (by kernel_rfl) (by kernel_rfl) (Or.inr ⟨?hw12n13nq, rfl⟩) HS.out ?rest12n13nq
        case hi12n13nq => (simp only [List.getElem?_toArray, List.getElem?_cons_succ, List.getElem?_cons_zero]; rfl)
        case hw12n13nq => rfl
        try simp only [Act.put, List.setIfInBounds_toArray, List.set_cons_zero, List.set_cons_succ]
        refine' wpAnyJ_take (i := 13) (v := _) [] ?hi13n14nq (by kernel_rfl) (by kernel_rfl) (by kernel_rfl) (by kernel_rfl) (by kernel_rfl) (Or.inr ⟨?hw13n14nq, rfl⟩) HS.out ?rest13n14nq
        case hi13n14nq => (simp only [List.getElem?_toArray, List.getElem?_cons_succ, List.getElem?_cons_zero]; rfl)
        case hw13n14nq => rfl
        try simp only [Act.put, List.setIfInBounds_toArray, List.set_cons_zero, List.set_cons_succ]
        refine' wpAnyJ_take (i := 14) (v := _) [] ?hi14n15nq (by kernel_rfl) (by kernel_rfl) (by kernel_rfl) (by kernel_rfl) (by kernel_rfl) (Or.inr ⟨?hw14n15nq, rfl⟩) HS.out ?rest14n15nq
        case hi14n15nq => (simp only [List.getElem?_toArray, List.getElem?_cons_succ, List.getElem?_cons_zero]; rfl)
        case hw14n15nq => rfl
        try simp only [Act.put, List.setIfInBounds_toArray, List.set_cons_zero, List.set_cons_succ]
        refine' wpAnyJ_take (i := 15) (v := _) [] ?hi15n16nq (by kernel_rfl) (by kernel_rfl) (by kernel_rfl) (by kernel_rfl) (by kernel_rfl) (Or.inr ⟨?hw15n16nq, rfl⟩) HS.out ?rest15n16nq
        case hi15n16nq => (simp only [List.getElem?_toArray, List.getElem?_cons_succ, List.getElem?_cons_zero]; rfl)
        case hw15n16nq => rfl
        try simp only [Act.put, List.setIfInBounds_toArray, List.set_cons_zero, List.set_cons_succ]
        refine' wpAnyJ_take (i := 16) (v := _) [] ?hi16n17nq (by kernel_rfl) (by kernel_rfl) (by kernel_rfl) (by kernel_rfl) (by kernel_rfl) (Or.inl ⟨?hw16n17nq, ?hy16n17nq⟩) HS.out ?rest16n17nq
        case hi16n17nq => (simp only [List.getElem?_toArray, List.getElem?_cons_succ, List.getElem?_cons_zero]; rfl)
        case hw16n17nq => rfl
        case hy16n17nq => (intro w' hw'; go_simp; try with_reducible rfl)
        try simp only [Act.put, List.setIfInBounds_toArray, List.set_cons_zero, List.set_cons_succ]
        refine' wpAnyJ_take (i := 17) (v := _) [] ?hi17n18nq (by kernel_rfl) (by kernel_rfl) (by kernel_rfl) (by kernel_rfl) (by kernel_rfl) (Or.inl ⟨?hw17n18nq, ?hy17n18nq⟩) HS.out ?rest17n18nq
        case hi17n18nq => (simp only [List.getElem?_toArray, List.getElem?_cons_succ, List.getElem?_cons_zero]; rfl)
        case hw17n18nq => rfl
        case hy17n18nq => (intro w' hw'; go_simp; try with_reducible rfl)
        try simp only [Act.put, List.setIfInBounds_toArray, List.set_cons_zero, List.set_cons_succ]
        refine wpAnyJ_done (by kernel_rfl) ?_ _
        refine NoPanic.normal ?_
        go_wp2_with fail
        go_meet
        exact ⟨rfl, HH.out, HF.out⟩
      | some a =>
        subst hpa
        cases hpb : pb with
        | none =>
          subst hpb
          refine j_startS [] (S := (fun W : World => W.cell? ⟨x, 0, none⟩ = some (.pointer (some ⟨a, 0, none⟩)) ∧ W.cell? ⟨x + 1, 0, none⟩ = some (.pointer none))) (by kernel_rfl) ?_
          obtain ⟨ud, hud⟩ : ∃ ud, w.drew = ud := ⟨_, rfl⟩
          have HH := hide (HH.out.below (by rw [← hud]; exact (Below.refl _ _).drew) : LkS w0 ud x (some a) none F G L)
          have HF : Hid (Sets (LkB x (some a) none) w ud) := hide (by rw [← hud]; exact (Sets.refl (S := LkB x (some a) none) w).drew)
          have HS : Hid ((fun W : World => W.cell? ⟨x, 0, none⟩ = some (.pointer (some ⟨a, 0, none⟩)) ∧ W.cell? ⟨x + 1, 0, none⟩ = some (.pointer none)) ud) := hide ⟨(cell_of_row _ _ 0 _ _ _ HH.out.bA).trans rfl, (cell_of_row _ _ 0 _ _ _ HH.out.bB).trans rfl⟩
          rw [hud]
          clear hud
          refine' wpAnyJ_take (i := 0) (v := _) [] ?hi0n1mq (by kernel_rfl) (by kernel_rfl) (by kernel_rfl) (by kernel_rfl) (by kernel_rfl) (Or.inl ⟨?hw0n1mq, ?hy0n1mq⟩) HS.out ?rest0n1mq
          case hi0n1mq => (simp only [List.getElem?_toArray, List.getElem?_cons_succ, List.getElem?_cons_zero]; rfl)
          case hw0n1mq => rfl
          case hy0n1mq => (intro w' hw'; have h0 := hw'.1; go_simp; try with_reducible rfl)
          try simp only [Act.put, List.setIfInBounds_toArray, List.set_cons_zero, List.set_cons_succ]
          refine' wpAnyJ_take (i := 1) (v := _) [] ?hi1n2mq (by kernel_rfl) (by kernel_rfl) (by kernel_rfl) (by kernel_rfl) (by kernel_rfl) (Or.inl ⟨?hw1n2mq, ?hy1n2mq⟩) HS.out ?rest1n2mq
          case hi1n2mq => (simp only [List.getElem?_toArray, List.getElem?_cons_succ, List.getElem?_cons_zero]; rfl)
          case hw1n2mq => rfl
          case hy1n2mq => (intro w' hw'; go_simp; try with_reducible rfl)
          try simp only [Act.put, List.setIfInBounds_toArray, List.set_cons_zero, List.set_cons_succ]
          refine' wpAnyJ_take (i := 2) (v := _) [] ?hi2n3mq (by kernel_rfl) (by kernel_rfl) (by kernel_rfl) (by kernel_rfl) (by kernel_rfl) (Or.inl ⟨?hw2n3mq, ?hy2n3mq⟩) HS.out ?rest2n3mq
          case hi2n3mq => (simp only [List.getElem?_toArray, List.getElem?_cons_succ, List.getElem?_cons_zero]; rfl)
          case hw2n3mq => rfl
          case hy2n3mq => (intro w' hw'; go_simp; try with_reducible rfl)
          try simp only [Act.put, List.setIfInBounds_toArray, List.set_cons_zero, List.set_cons_succ]
          refine' wpAnyJ_take (i := 3) (v := _) [] ?hi3n4mq (by kernel_rfl) (by kernel_rfl) (by kernel_rfl) (by kernel_rfl) (by kernel_rfl) (Or.inl ⟨?hw3n4mq, ?hy3n4mq⟩) HS.out ?rest3n4mq
          case hi3n4mq => (simp only [List.getElem?_toArray, List.getElem?_cons_succ, List.getElem?_cons_zero]; rfl)
          case hw3n4mq => rfl
          case hy3n4mq => (intro w' hw'; have h0 := hw'.2; go_simp; try with_reducible rfl)
          try simp only [Act.put, List.setIfInBounds_toArray, List.set_cons_zero, List.set_cons_succ]
          refine' wpAnyJ_take (i := 4) (v := _) [] ?hi4n5mq (by kernel_rfl) (by kernel_rfl) (by kernel_rfl) (by kernel_rfl) (by kernel_rfl) (Or.inl ⟨?hw4n5mq, ?hy4n5mq⟩) HS.out ?rest4n5mq
          case hi4n5mq => (simp only [List.getElem?_toArray, List.getElem?_cons_succ, List.getElem?_cons_zero]; rfl)
          case hw4n5mq => rfl
          case hy4n5mq => (intro w' hw'; go_simp; try with_reducible rfl)
          try simp only [Act.put, List.setIfInBounds_toArray, List.set_cons_zero, List.set_cons_succ]
          refine' wpAnyJ_take (i := 5) (v := _) [] ?hi5n6mq (by kernel_rfl) (by kernel_rfl) (by kernel_rfl) (by kernel_rfl) (by kernel_rfl) (Or.inl ⟨?hw5n6mq, ?hy5n6mq⟩) HS.out ?rest5n6mq
          case hi5n6mq => (simp only [List.getElem?_toArray, List.getElem?_cons_succ, List.getElem?_cons_zero]; rfl)
          case hw5n6mq => rfl
          case hy5n6mq => (intro w' hw'; go_simp; try with_reducible rfl)
          try simp only [Act.put, List.setIfInBounds_toArray, List.set_cons_zero, List.set_cons_succ]
          refine' wpAnyJ_take (i := 6) (v := _) [] ?hi6n7mq (by kernel_rfl) (by kernel_rfl) (by kernel_rfl) (by kernel_rfl) (by kernel_rfl) (Or.inl ⟨?hw6n7mq, ?hy6n7mq⟩) HS.out ?rest6n7mq
          case hi6n7mq => (simp only [List.getElem?_toArray, List.getElem?_cons_succ, List.getElem?_cons_zero]; rfl)
          case hw6n7mq => rfl
          case hy6n7mq => (intro w' hw'; go_simp; try with_reducible rfl)
          try simp only [Act.put, List.setIfInBounds_toArray, List.set_cons_zero, List.set_cons_succ]
          refine' wpAnyJ_take (i := 7) (v := _) [] ?hi7n8mq (by kernel_rfl) (by kernel_rfl) (by kernel_rfl) (by kernel_rfl) (by kernel_rfl) (Or.inr ⟨?hw7n8mq, rfl⟩) HS.out ?rest7n8mq
          case hi7n8mq => (simp only [List.getElem?_toArray, List.getElem?_cons_succ, List.getElem?_cons_zero]; rfl)
          case hw7n8mq => rfl
          try simp only [Act.put, List.setIfInBounds_toArray, List.set_cons_zero, List.set_cons_succ]
          refine' wpAnyJ_take (i := 8) (v := _) [] ?hi8n9mq (by kernel_rfl) (by kernel_rfl) (by kernel_rfl) (by kernel_rfl) (by kernel_rfl) (Or.inr ⟨?hw8n9mq, rfl⟩) HS.out ?rest8n9mq
          case hi8n9mq => (simp only [List.getElem?_toArray, List.getElem?_cons_succ, List.getElem?_cons_zero]; rfl)
          case hw8n9mq => rfl
          try simp only [Act.put, List.setIfInBounds_toArray, List.set_cons_zero, List.set_cons_succ]
          refine' wpAnyJ_take (i := 9) (v := _) [] ?hi9n10mq (by kernel_rfl) (by kernel_rfl) (by kernel_rfl) (by kernel_rfl) (by kernel_rfl) (Or.inr ⟨?hw9n10mq, rfl⟩) HS.out ?rest9n10mq
          case hi9n10mq => (simp only [List.getElem?_toArray, List.getElem?_cons_succ, List.getElem?_cons_zero]; rfl)
          case hw9n10mq => rfl
          try simp only [Act.put, List.setIfInBounds_toArray, List.set_cons_zero, List.set_cons_succ]
          refine' wpAnyJ_take (i := 10) (v := _) [] ?hi10n11mq (by kernel_rfl) (by kernel_rfl) (by kernel_rfl) (by kernel_rfl) (by kernel_rfl) (Or.inr ⟨?hw10n11mq, rfl⟩) HS.out ?rest10n11mq
          case hi10n11mq => (simp only [List.getElem?_toArray, List.getElem?_cons_succ, List.getElem?_cons_zero]; rfl)
          case hw10n11mq => rfl
          try simp only [Act.put, List.setIfInBounds_toArray, List.set_cons_zero, List.set_cons_succ]
          refine' wpAnyJ_take (i := 11) (v := _) [] ?hi11n12mq (by kernel_rfl) (by kernel_rfl) (by kernel_rfl) (by kernel_rfl) (by kernel_rfl) (Or.inr ⟨?hw11n12mq, rfl⟩) HS.out ?rest11n12mq
          case hi11n12mq => (simp only [List.getElem?_toArray, List.getElem?_cons_succ, List.getElem?_cons_zero]; rfl)
          case hw11n12mq => rfl
          try simp only [Act.put, List.setIfInBounds_toArray, List.set_cons_zero, List.set_cons_succ]
          refine' wpAnyJ_take (i := 12) (v := _) [] ?hi12n13mq (by kernel_rfl) (by kernel_rfl) (by kernel_rfl) (by kernel_rfl) (by kernel_rfl) (Or.inr ⟨?hw12n13mq, rfl⟩) HS.out ?rest12n13mq
          case hi12n13mq => (simp only [List.getElem?_toArray, List.getElem?_cons_succ, List.getElem?_cons_zero]; rfl)
          case hw12n13mq => rfl
          try simp only [Act.put, List.setIfInBounds_toArray, List.set_cons_zero, List.set_cons_succ]
          refine' wpAnyJ_take (i := 13) (v := _) [] ?hi13n14mq (by kernel_rfl) (by kernel_rfl) (by kernel_rfl) (by kernel_rfl) (by kernel_rfl) (Or.inr ⟨?hw13n14mq, rfl⟩) HS.out ?rest13n14mq
          case hi13n14mq => (simp only [List.getElem?_toArray, List.getElem?_cons_succ, List.getElem?_cons_zero]; rfl)
          case hw13n14mq => rfl
          try simp only [Act.put, List.setIfInBounds_toArray, List.set_cons_zero, List.set_cons_succ]
          refine' wpAnyJ_take (i := 14) (v := _) [] ?hi14n15mq (by kernel_rfl) (by kernel_rfl) (by kernel_rfl) (by kernel_rfl) (by kernel_rfl) (Or.inr ⟨?hw14n15mq, rfl⟩) HS.out ?rest14n15mq
          case hi14n15mq => (simp only [List.getElem?_toArray, List.getElem?_cons_succ, List.getElem?_cons_zero]; rfl)
          case hw14n15mq => rfl
          try simp only [Act.put, List.setIfInBounds_toArray, List.set_cons_zero, List.set_cons_succ]
          refine' wpAnyJ_take (i := 15) (v := _) [] ?hi15n16mq (by kernel_rfl) (by kernel_rfl) (by kernel_rfl) (by kernel_rfl) (by kernel_rfl) (Or.inr ⟨?hw15n16mq, rfl⟩) HS.out ?rest15n16mq
          case hi15n16mq => (simp only [List.getElem?_toArray, List.getElem?_cons_succ, List.getElem?_cons_zero]; rfl)
          case hw15n16mq => rfl
          try simp only [Act.put, List.setIfInBounds_toArray, List.set_cons_zero, List.set_cons_succ]
          refine' wpAnyJ_take (i := 16) (v := _) [] ?hi16n17mq (by kernel_rfl) (by kernel_rfl) (by kernel_rfl) (by kernel_rfl) (by kernel_rfl) (Or.inl ⟨?hw16n17mq, ?hy16n17mq⟩) HS.out ?rest16n17mq
          case hi16n17mq => (simp only [List.getElem?_toArray, List.getElem?_cons_succ, List.getElem?_cons_zero]; rfl)
          case hw16n17mq => rfl
          case hy16n17mq => (intro w' hw'; go_simp; try with_reducible rfl)
          try simp only [Act.put, List.setIfInBounds_toArray, List.set_cons_zero, List.set_cons_succ]
          refine' wpAnyJ_take (i := 17) (v := _) [] ?hi17n18mq (by kernel_rfl) (by kernel_rfl) (by kernel_rfl) (by kernel_rfl) (by kernel_rfl) (Or.inl ⟨?hw17n18mq, ?hy17n18mq⟩) HS.out ?rest17n18mq
          case hi17n18mq => (simp only [List.getElem?_toArray, List.getElem?_cons_succ, List.getElem?_cons_zero]; rfl)
          case hw17n18mq => rfl
          case hy17n18mq => (intro w' hw'; go_simp; try with_reducible rfl)
          try simp only [Act.put, List.setIfInBounds_toArray, List.set_cons_zero, List.set_cons_succ]
          refine wpAnyJ_done (by kernel_rfl) ?_ _
          refine NoPanic.normal ?_
          go_wp2_with fail
          go_meet
          exact ⟨rfl, HH.out, HF.out⟩
        | some c =>
          subst hpb
          have hne : a ≠ c := fun e => HH.out.ne a rfl (by rw [e])
          refine j_startS [] (S := (fun W : World => W.cell? ⟨x, 0, none⟩ = some (.pointer (some ⟨a, 0, none⟩)) ∧ W.cell? ⟨x + 1, 0, none⟩ = some (.pointer (some ⟨c, 0, none⟩)))) (by kernel_rfl) ?_
          obtain ⟨ud, hud⟩ : ∃ ud, w.drew = ud := ⟨_, rfl⟩
          have HH := hide (HH.out.below (by rw [← hud]; exact (Below.refl _ _).drew) : LkS w0 ud x (some a) (some c) F G L)
          have HF : Hid (Sets (LkB x (some a) (some c)) w ud) := hide (by rw [← hud]; exact (Sets.refl (S := LkB x (some a) (some c)) w).drew)
          have HS : Hid ((fun W : World => W.cell? ⟨x, 0, none⟩ = some (.pointer (some ⟨a, 0, none⟩)) ∧ W.cell? ⟨x + 1, 0, none⟩ = some (.pointer (some ⟨c, 0, none⟩))) ud) := hide ⟨(cell_of_row _ _ 0 _ _ _ HH.out.bA).trans rfl, (cell_of_row _ _ 0 _ _ _ HH.out.bB).trans rfl⟩
          rw [hud]
          clear hud
          refine' wpAnyJ_take (i := 0) (v := _) [] ?hi0n1cq (by kernel_rfl) (by kernel_rfl) (by kernel_rfl) (by kernel_rfl) (by kernel_rfl) (Or.inl ⟨?hw0n1cq, ?hy0n1cq⟩) HS.out ?rest0n1cq
          case hi0n1cq => (simp only [List.getElem?_toArray, List.getElem?_cons_succ, List.getElem?_cons_zero]; rfl)
          case hw0n1cq => rfl
          case hy0n1cq => (intro w' hw'; have h0 := hw'.1; go_simp; try with_reducible rfl)
          try simp only [Act.put, List.setIfInBounds_toArray, List.set_cons_zero, List.set_cons_succ]
          refine' wpAnyJ_take (i := 1) (v := _) [] ?hi1n2cq (by kernel_rfl) (by kernel_rfl) (by kernel_rfl) (by kernel_rfl) (by kernel_rfl) (Or.inl ⟨?hw1n2cq, ?hy1n2cq⟩) HS.out ?rest1n2cq
          case hi1n2cq => (simp only [List.getElem?_toArray, List.getElem?_cons_succ, List.getElem?_cons_zero]; rfl)
          case hw1n2cq => rfl
          case hy1n2cq => (intro w' hw'; go_simp; try with_reducible rfl)
          try simp only [Act.put, List.setIfInBounds_toArray, List.set_cons_zero, List.set_cons_succ]
          refine' wpAnyJ_take (i := 2) (v := _) [] ?hi2n3cq (by kernel_rfl) (by kernel_rfl) (by kernel_rfl) (by kernel_rfl) (by kernel_rfl) (Or.inl ⟨?hw2n3cq, ?hy2n3cq⟩) HS.out ?rest2n3cq
          case hi2n3cq => (simp only [List.getElem?_toArray, List.getElem?_cons_succ, List.getElem?_cons_zero]; rfl)
          case hw2n3cq => rfl
          case hy2n3cq => (intro w' hw'; go_simp; try with_reducible rfl)
          try simp only [Act.put, List.setIfInBounds_toArray, List.set_cons_zero, List.set_cons_succ]
          refine' wpAnyJ_take (i := 3) (v := _) [] ?hi3n4cq (by kernel_rfl) (by kernel_rfl) (by kernel_rfl) (by kernel_rfl) (by kernel_rfl) (Or.inl ⟨?hw3n4cq, ?hy3n4cq⟩) HS.out ?rest3n4cq
          case hi3n4cq => (simp only [List.getElem?_toArray, List.getElem?_cons_succ, List.getElem?_cons_zero]; rfl)
          case hw3n4cq => rfl
          case hy3n4cq => (intro w' hw'; have h0 := hw'.2; go_simp; try with_reducible rfl)
          try simp only [Act.put, List.setIfInBounds_toArray, List.set_cons_zero, List.set_cons_succ]
          refine' wpAnyJ_take (i := 4) (v := _) [] ?hi4n5cq (by kernel_rfl) (by kernel_rfl) (by kernel_rfl) (by kernel_rfl) (by kernel_rfl) (Or.inl ⟨?hw4n5cq, ?hy4n5cq⟩) HS.out ?rest4n5cq
          case hi4n5cq => (simp only [List.getElem?_toArray, List.getElem?_cons_succ, List.getElem?_cons_zero]; rfl)
          case hw4n5cq => rfl
          case hy4n5cq => (intro w' hw'; go_simp; try with_reducible rfl)
          try simp only [Act.put, List.setIfInBounds_toArray, List.set_cons_zero, List.set_cons_succ]
          refine' wpAnyJ_take (i := 5) (v := _) [] ?hi5n6cq (by kernel_rfl) (by kernel_rfl) (by kernel_rfl) (by kernel_rfl) (by kernel_rfl) (Or.inl ⟨?hw5n6cq, ?hy5n6cq⟩) HS.out ?rest5n6cq
          case hi5n6cq => (simp only [List.getElem?_toArray, List.getElem?_cons_succ, List.getElem?_cons_zero]; rfl)
          case hw5n6cq => rfl
          case hy5n6cq => (intro w' hw'; go_simp; try with_reducible rfl)
          try simp only [Act.put, List.setIfInBounds_toArray, List.set_cons_zero, List.set_cons_succ]
          refine' wpAnyJ_take (i := 6) (v := _) [] ?hi6n7cq (by kernel_rfl) (by kernel_rfl) (by kernel_rfl) (by kernel_rfl) (by kernel_rfl) (Or.inl ⟨?hw6n7cq, ?hy6n7cq⟩) HS.out ?rest6n7cq
          case hi6n7cq => (simp only [List.getElem?_toArray, List.getElem?_cons_succ, List.getElem?_cons_zero]; rfl)
          case hw6n7cq => rfl
          case hy6n7cq => (intro w' hw'; go_simp; try with_reducible rfl)
          try simp only [Act.put, List.setIfInBounds_toArray, List.set_cons_zero, List.set_cons_succ]
          refine' wpAnyJ_take (i := 7) (v := _) [] ?hi7n8cq (by kernel_rfl) (by kernel_rfl) (by kernel_rfl) (by kernel_rfl) (by kernel_rfl) (Or.inl ⟨?hw7n8cq, ?hy7n8cq⟩) HS.out ?rest7n8cq
          case hi7n8cq => (simp only [List.getElem?_toArray, List.getElem?_cons_succ, List.getElem?_cons_zero]; rfl)
          case hw7n8cq => rfl
          case hy7n8cq => (intro w' hw'; have h0 := hw'.1; go_simp; try with_reducible rfl)
          try simp only [Act.put, List.setIfInBounds_toArray, List.set_cons_zero, List.set_cons_succ]
          refine' wpAnyJ_take (i := 8) (v := _) [] ?hi8n9cq (by kernel_rfl) (by kernel_rfl) (by kernel_rfl) (by kernel_rfl) (by kernel_rfl) (Or.inl ⟨?hw8n9cq, ?hy8n9cq⟩) HS.out ?rest8n9cq
          case hi8n9cq => (simp only [List.getElem?_toArray, List.getElem?_cons_succ, List.getElem?_cons_zero]; rfl)
          case hw8n9cq => rfl
          case hy8n9cq => (intro w' hw'; go_simp; try with_reducible rfl)
          try simp only [Act.put, List.setIfInBounds_toArray, List.set_cons_zero, List.set_cons_succ]
          refine' wpAnyJ_take (i := 9) (v := _) [] ?hi9n10cq (by kernel_rfl) (by kernel_rfl) (by kernel_rfl) (by kernel_rfl) (by kernel_rfl) (Or.inl ⟨?hw9n10cq, ?hy9n10cq⟩) HS.out ?rest9n10cq
          case hi9n10cq => (simp only [List.getElem?_toArray, List.getElem?_cons_succ, List.getElem?_cons_zero]; rfl)
          case hw9n10cq => rfl
          case hy9n10cq => (intro w' hw'; go_simp; try with_reducible rfl)
          try simp only [Act.put, List.setIfInBounds_toArray, List.set_cons_zero, List.set_cons_succ]
          refine' wpAnyJ_take (i := 11) (v := _) [] ?hi11n11cq (by kernel_rfl) (by kernel_rfl) (by kernel_rfl) (by kernel_rfl) (by kernel_rfl) (Or.inl ⟨?hw11n11cq, ?hy11n11cq⟩) HS.out ?rest11n11cq
          case hi11n11cq => (simp only [List.getElem?_toArray, List.getElem?_cons_succ, List.getElem?_cons_zero]; rfl)
          case hw11n11cq => rfl
          case hy11n11cq => (intro w' hw'; have h0 := hw'.2; go_simp; try with_reducible rfl)
          try simp only [Act.put, List.setIfInBounds_toArray, List.set_cons_zero, List.set_cons_succ]
          refine' wpAnyJ_take (i := 12) (v := _) [] ?hi12n12cq (by kernel_rfl) (by kernel_rfl) (by kernel_rfl) (by kernel_rfl) (by kernel_rfl) (Or.inl ⟨?hw12n12cq, ?hy12n12cq⟩) HS.out ?rest12n12cq
          case hi12n12cq => (simp only [List.getElem?_toArray, List.getElem?_cons_succ, List.getElem?_cons_zero]; rfl)
          case hw12n12cq => rfl
          case hy12n12cq => (intro w' hw'; go_simp; try with_reducible rfl)
          try simp only [Act.put, List.setIfInBounds_toArray, List.set_cons_zero, List.set_cons_succ]
          refine' wpAnyJ_take (i := 13) (v := _) [] ?hi13n13cq (by kernel_rfl) (by kernel_rfl) (by kernel_rfl) (by kernel_rfl) (by kernel_rfl) (Or.inl ⟨?hw13n13cq, ?hy13n13cq⟩) HS.out ?rest13n13cq
          case hi13n13cq => (simp only [List.getElem?_toArray, List.getElem?_cons_succ, List.getElem?_cons_zero]; rfl)
          case hw13n13cq => rfl
          case hy13n13cq => (intro w' hw'; go_simp; try with_reducible rfl)
          try simp only [Act.put, List.setIfInBounds_toArray, List.set_cons_zero, List.set_cons_succ]
          refine' wpAnyJ_step (i := 10) (o := _) (by kernel_rfl) ?ho10n14cq (fun K hK => ?step10n14cq)
          case ho10n14cq => (simp only [List.getElem?_toArray, List.getElem?_cons_succ, List.getElem?_cons_zero]; rfl)
          go_simp
          refine (Calls.mono (node_any (HH.out.ta a rfl) m i hl hi) ?_); rintro e u1 ⟨rfl, hT, hS⟩
          have HH := hide (HH.out.summed a (.inl rfl) hS (fun q hq => by obtain rfl := Option.some.inj hq; exact hT) (fun q hq => by obtain rfl := Option.some.inj hq; exact (HH.out.tc _ rfl).apart (HH.out.ta a rfl) (fun e => hne e.symm) hS))
          have HF := hide (HF.out.trans hS (fun _ _ e => .inl (by rw [e])))
          have HS : Hid ((fun W : World => W.cell? ⟨x, 0, none⟩ = some (.pointer (some ⟨a, 0, none⟩)) ∧ W.cell? ⟨x + 1, 0, none⟩ = some (.pointer (some ⟨c, 0, none⟩))) u1) := hide ⟨(cell_of_row _ _ 0 _ _ _ HH.out.bA).trans rfl, (cell_of_row _ _ 0 _ _ _ HH.out.bB).trans rfl⟩
          clear hT hS
          refine hK.out _ _ HS.out ?_
          clear hK K
          try simp only [Act.put, List.setIfInBounds_toArray, List.set_cons_zero, List.set_cons_succ]
          refine' wpAnyJ_step (i := 14) (o := _) (by kernel_rfl) ?ho14n15cq (fun K hK => ?step14n15cq)
          case ho14n15cq => (simp only [List.getElem?_toArray, List.getElem?_cons_succ, List.getElem?_cons_zero]; rfl)
          go_simp
          refine (Calls.mono (node_any (HH.out.tc c rfl) m i hl hi) ?_); rintro e u2 ⟨rfl, hT, hS⟩
          have HH := hide (HH.out.summed c (.inr rfl) hS (fun q hq => by obtain rfl := Option.some.inj hq; exact (HH.out.ta _ rfl).apart (HH.out.tc c rfl) hne hS) (fun q hq => by obtain rfl := Option.some.inj hq; exact hT))
          have HF := hide (HF.out.trans hS (fun _ _ e => .inr (.inl (by rw [e]))))
          have HS : Hid ((fun W : World => W.cell? ⟨x, 0, none⟩ = some (.pointer (some ⟨a, 0, none⟩)) ∧ W.cell? ⟨x + 1, 0, none⟩ = some (.pointer (some ⟨c, 0, none⟩))) u2) := hide ⟨(cell_of_row _ _ 0 _ _ _ HH.out.bA).trans rfl, (cell_of_row _ _ 0 _ _ _ HH.out.bB).trans rfl⟩
          clear hT hS
          refine hK.out _ _ HS.out ?_
          clear hK K
          try simp only [Act.put, List.setIfInBounds_toArray, List.set_cons_zero, List.set_cons_succ]
          refine' wpAnyJ_take (i := 15) (v := _) [] ?hi15n16cq (by kernel_rfl) (by kernel_rfl) (by kernel_rfl) (by kernel_rfl) (by kernel_rfl) (Or.inl ⟨?hw15n16cq, ?hy15n16cq⟩) HS.out ?rest15n16cq
          case hi15n16cq => (simp only [List.getElem?_toArray, List.getElem?_cons_succ, List.getElem?_cons_zero]; rfl)
          case hw15n16cq => rfl
          case hy15n16cq => (intro w' hw'; go_simp; try with_reducible rfl)
          try simp only [Act.put, List.setIfInBounds_toArray, List.set_cons_zero, List.set_cons_succ]
          refine' wpAnyJ_take (i := 16) (v := _) [] ?hi16n17cq (by kernel_rfl) (by kernel_rfl) (by kernel_rfl) (by kernel_rfl) (by kernel_rfl) (Or.inl ⟨?hw16n17cq, ?hy16n17cq⟩) HS.out ?rest16n17cq
          case hi16n17cq => (simp only [List.getElem?_toArray, List.getElem?_cons_succ, List.getElem?_cons_zero]; rfl)
          case hw16n17cq => rfl
          case hy16n17cq => (intro w' hw'; go_simp; try with_reducible rfl)
          try simp only [Act.put, List.setIfInBounds_toArray, List.set_cons_zero, List.set_cons_succ]
          refine' wpAnyJ_take (i := 17) (v := _) [] ?hi17n18cq (by kernel_rfl) (by kernel_rfl) (by kernel_rfl) (by kernel_rfl) (by kernel_rfl) (Or.inl ⟨?hw17n18cq, ?hy17n18cq⟩) HS.out ?rest17n18cq
          case hi17n18cq => (simp only [List.getElem?_toArray, List.getElem?_cons_succ, List.getElem?_cons_zero]; rfl)
          case hw17n18cq => rfl
          case hy17n18cq => (intro w' hw'; go_simp; try with_reducible rfl)
          try simp only [Act.put, List.setIfInBounds_toArray, List.set_cons_zero, List.set_cons_succ]
          refine wpAnyJ_done (by kernel_rfl) ?_ _
          refine NoPanic.normal ?_
          go_wp2_with fail
          go_meet
          exact ⟨rfl, HH.out, HF.out⟩
    case rest =>
      obtain ⟨rfl, h2, hs2⟩ := hcut
      have H2 := hide h2
      have HS2 := hide hs2
      clear h2 hs2 HH
      obtain ⟨q, hq⟩ : ∃ q, sameN pa pb F G m i = q := ⟨_, rfl⟩
      have HQ := hide hq
      rw [hq]
      clear hq
      cases q with
      | true =>
        clear hL
        go_wp2_with fail
        go_end0
        exact ⟨rfl, by rw [show difL (sameN pa pb F G) m i = [] from by rw [HM.out]; unfold difL; rw [← HM.out, HQ.out]; rfl, List.append_nil]; exact H2.out, HS2.out⟩
      | false =>
        obtain rfl := HM.out
        obtain ⟨v, hv, ho⟩ := H2.out.bO
        obtain ⟨A, c, rfl, _, _⟩ := OwnL.vals ho
        have hz := (cell_of_row _ _ 0 _ _ _ hv).trans rfl
        have hsz := H2.out.size
        have HV := hide hv
        have HO := hide ho
        have hbd : x + 2 < wc.heap.size := by omega
        have hbd4 : x + 4 ≤ wc.heap.size := by omega
        have hfz : wc.frozen? ⟨x + 2, 0, none⟩ = false := by simp [World.frozen?, hv]
        clear hv ho
        go_wp2_with (at_builtin; go_loud (refine wpList_append_one rfl (.tmp 42) (.tmp 44) 30 3 _ 8 rfl Try.underlying30 Try.infoIntS rfl (fun _ => rfl) (by omega) (x + 4) (x + 4) wc wc _ _ L i rfl rfl rfl HO.out (Below.refl _ _) (Nat.le_refl _) hbd4 (by omega) ?_; intro v2 u2 ho2 hb2 hg2; obtain ⟨A2, c2, rfl, _, _⟩ := OwnL.vals ho2; have hbk := hg2.block (x + 2) hbd (fun e => by have := (OwnL.lt HO.out _ e.symm).1; omega); have hz2 : u2.cell? ⟨x + 2, 0, none⟩ = some (.slice A L.length c) := (World.cell?_of_block hbk).trans hz; have hfz2 : u2.frozen? ⟨x + 2, 0, none⟩ = false := (World.frozen?_of_block hbk).trans hfz; have hl1 : (L ++ [i]).length = L.length + 1 := (by simp); rw [hl1] at ho2 ⊢; have HO2 := hide ho2; have HG2 := hide hg2; clear ho2 hg2 hb2 hz hfz hbk hl1))
        obtain ⟨hT, hS⟩ := H2.out.told HV.out HO.out HG2.out HO2.out
        have HT := hide hT
        have HSF := hide (HS2.out.trans hS (fun _ _ h => h))
        clear hT hS
        go_wp2_with fail
        go_end0
        exact ⟨rfl, by rw [show difL (sameN pa pb F G) 0 i = [i] from by unfold difL; rw [HQ.out]; rfl]; exact HT.out, HSF.out⟩
  | succ l ih =>
    intro m hm i hl hi w L hL h
    have HH := hide h
    have HM := hide hm
    have hl0I : (0 : Int) ≤ (i : Int) := by omega
    clear h hm
    go_enter Try.func17, Try.ntmps17
    go_upto_region 2 with fail
    go_cut [21] (fun v W => v = .bool (sameN pa pb F G m i) ∧ LkS w0 W x pa pb F G L ∧ Sets (LkB x pa pb) w W)
    case first =>
      clear ih hL
      cases hpa : pa with
      | none =>
        subst hpa
        refine j_startS [] (S := (fun W : World => W.cell? ⟨x, 0, none⟩ = some (.pointer none))) (by kernel_rfl) ?_
        obtain ⟨ud, hud⟩ : ∃ ud, w.drew = ud := ⟨_, rfl⟩
        have HH := hide (HH.out.below (by rw [← hud]; exact (Below.refl _ _).drew) : LkS w0 ud x none pb F G L)
        have HF : Hid (Sets (LkB x none pb) w ud) := hide (by rw [← hud]; exact (Sets.refl (S := LkB x none pb) w).drew)
        have HS : Hid ((fun W : World => W.cell? ⟨x, 0, none⟩ = some (.pointer none)) ud) := hide ((cell_of_row _ _ 0 _ _ _ HH.out.bA).trans rfl)
        rw [hud]
        clear hud
        refine' wpAnyJ_take (i := 0) (v := _) [] ?hi0n1ns (by kernel_rfl) (by kernel_rfl) (by kernel_rfl) (by kernel_rfl) (by kernel_rfl) (Or.inl ⟨?hw0n1ns, ?hy0n1ns⟩) HS.out ?rest0n1ns
        case hi0n1ns => (simp only [List.getElem?_toArray, List.getElem?_cons_succ, List.getElem?_cons_zero]; rfl)
        case hw0n1ns => rfl
        case hy0n1ns => (intro w' hw'; have h0 : w'.cell? ⟨x, 0, none⟩ = some (.pointer none) := hw'; go_simp; try with_reducible rfl)
        try simp only [Act.put, List.setIfInBounds_toArray, List.set_cons_zero, List.set_cons_succ]
        refine' wpAnyJ_take (i := 1) (v := _) [] ?hi1n2ns (by kernel_rfl) (by kernel_rfl) (by kernel_rfl) (by kernel_rfl) (by kernel_rfl) (Or.inl ⟨?hw1n2ns, ?hy1n2ns⟩) HS.out ?rest1n2ns
        case hi1n2ns => (simp only [List.getElem?_toArray, List.getElem?_cons_succ, List.getElem?_cons_zero]; rfl)
        case hw1n2ns => rfl
        case hy1n2ns => (intro w' hw'; go_simp; try with_reducible rfl)
        try simp only [Act.put, List.setIfInBounds_toArray, List.set_cons_zero, List.set_cons_succ]
        refine' wpAnyJ_take (i := 2) (v := _) [] ?hi2n3ns (by kernel_rfl) (by kernel_rfl) (by kernel_rfl) (by kernel_rfl) (by kernel_rfl) (Or.inl ⟨?hw2n3ns, ?hy2n3ns⟩) HS.out ?rest2n3ns
        case hi2n3ns => (simp only [List.getElem?_toArray, List.getElem?_cons_succ, List.getElem?_cons_zero]; rfl)
        case hw2n3ns => rfl
        case hy2n3ns => (intro w' hw'; go_simp; try with_reducible rfl)
        try simp only [Act.put, List.setIfInBounds_toArray, List.set_cons_zero, List.set_cons_succ]
        refine' wpAnyJ_take (i := 3) (v := _) [] ?hi3n4ns (by kernel_rfl) (by kernel_rfl) (by kernel_rfl) (by kernel_rfl) (by kernel_rfl) (Or.inr ⟨?hw3n4ns, rfl⟩) HS.out ?rest3n4ns
        case hi3n4ns => (simp only [List.getElem?_toArray, List.getElem?_cons_succ, List.getElem?_cons_zero]; rfl)
        case hw3n4ns => rfl
        try simp only [Act.put, List.setIfInBounds_toArray, List.set_cons_zero, List.set_cons_succ]
        refine' wpAnyJ_take (i := 4) (v := _) [] ?hi4n5ns (by kernel_rfl) (by kernel_rfl) (by kernel_rfl) (by kernel_rfl) (by kernel_rfl) (Or.inr ⟨?hw4n5ns, rfl⟩) HS.out ?rest4n5ns
        case hi4n5ns => (simp only [List.getElem?_toArray, List.getElem?_cons_succ, List.getElem?_cons_zero]; rfl)
        case hw4n5ns => rfl
        try simp only [Act.put, List.setIfInBounds_toArray, List.set_cons_zero, List.set_cons_succ]
        refine' wpAnyJ_take (i := 5) (v := _) [] ?hi5n6ns (by kernel_rfl) (by kernel_rfl) (by kernel_rfl) (by kernel_rfl) (by kernel_rfl) (Or.inl ⟨?hw5n6ns, ?hy5n6ns⟩) HS.out ?rest5n6ns
        case hi5n6ns => (simp only [List.getElem?_toArray, List.getElem?_cons_succ, List.getElem?_cons_zero]; rfl)
        case hw5n6ns => rfl
        case hy5n6ns => (intro w' hw'; go_simp; try with_reducible rfl)
        try simp only [Act.put, List.setIfInBounds_toArray, List.set_cons_zero, List.set_cons_succ]
        refine' wpAnyJ_take (i := 6) (v := _) [] ?hi6n7ns (by kernel_rfl) (by kernel_rfl) (by kernel_rfl) (by kernel_rfl) (by kernel_rfl) (Or.inl ⟨?hw6n7ns, ?hy6n7ns⟩) HS.out ?rest6n7ns
        case hi6n7ns => (simp only [List.getElem?_toArray, List.getElem?_cons_succ, List.getElem?_cons_zero]; rfl)
        case hw6n7ns => rfl
        case hy6n7ns => (intro w' hw'; go_simp; try with_reducible rfl)
        try simp only [Act.put, List.setIfInBounds_toArray, List.set_cons_zero, List.set_cons_succ]
        refine' wpAnyJ_take (i := 7) (v := _) [] ?hi7n8ns (by kernel_rfl) (by kernel_rfl) (by kernel_rfl) (by kernel_rfl) (by kernel_rfl) (Or.inr ⟨?hw7n8ns, rfl⟩) HS.out ?rest7n8ns
        case hi7n8ns => (simp only [List.getElem?_toArray, List.getElem?_cons_succ, List.getElem?_cons_zero]; rfl)
        case hw7n8ns => rfl
        try simp only [Act.put, List.setIfInBounds_toArray, List.set_cons_zero, List.set_cons_succ]
        refine' wpAnyJ_take (i := 8) (v := _) [] ?hi8n9ns (by kernel_rfl) (by kernel_rfl) (by kernel_rfl) (by kernel_rfl) (by kernel_rfl) (Or.inr ⟨?hw8n9ns, rfl⟩) HS.out ?rest8n9ns
        case hi8n9ns => (simp only [List.getElem?_toArray, List.getElem?_cons_succ, List.getElem?_cons_zero]; rfl)
        case hw8n9ns => rfl
        try simp only [Act.put, List.setIfInBounds_toArray, List.set_cons_zero, List.set_cons_succ]
        refine' wpAnyJ_take (i := 9) (v := _) [] ?hi9n10ns (by kernel_rfl) (by kernel_rfl) (by kernel_rfl) (by kernel_rfl) (by kernel_rfl) (Or.inr ⟨?hw9n10ns, rfl⟩) HS.out ?rest9n10ns
        case hi9n10ns => (simp only [List.getElem?_toArray, List.getElem?_cons_succ, List.getElem?_cons_zero]; rfl)
        case hw9n10ns => rfl
        try simp only [Act.put, List.setIfInBounds_toArray, List.set_cons_zero, List.set_cons_succ]
        refine' wpAnyJ_take (i := 10) (v := _) [] ?hi10n11ns (by kernel_rfl) (by kernel_rfl) (by kernel_rfl) (by kernel_rfl) (by kernel_rfl) (Or.inr ⟨?hw10n11ns, rfl⟩) HS.out ?rest10n11ns
        case hi10n11ns => (simp only [List.getElem?_toArray, List.getElem?_cons_succ, List.getElem?_cons_zero]; rfl)
        case hw10n11ns => rfl
        try simp only [Act.put, List.setIfInBounds_toArray, List.set_cons_zero, List.set_cons_succ]
        refine' wpAnyJ_take (i := 11) (v := _) [] ?hi11n12ns (by kernel_rfl) (by kernel_rfl) (by kernel_rfl) (by kernel_rfl) (by kernel_rfl) (Or.inr ⟨?hw11n12ns, rfl⟩) HS.out ?rest11n12ns
        case hi11n12ns => (simp only [List.getElem?_toArray, List.getElem?_cons_succ, List.getElem?_cons_zero]; rfl)
        case hw11n12ns => rfl
        try simp only [Act.put, List.setIfInBounds_toArray, List.set_cons_zero, List.set_cons_succ]
        refine' wpAnyJ_take (i := 12) (v := _) [] ?hi12n13ns (by kernel_rfl) (by kernel_rfl) (by kernel_rfl) (by kernel_rfl) (by kernel_rfl) (Or.inr ⟨?hw12n13ns, rfl⟩) HS.out ?rest12n13ns
        case hi12n13ns => (simp only [List.getElem?_toArray, List.getElem?_cons_succ, List.getElem?_cons_zero]; rfl)
        case hw12n13ns => rfl
        try simp only [Act.put, List.setIfInBounds_toArray, List.set_cons_zero, List.set_cons_succ]
        refine' wpAnyJ_take (i := 13) (v := _) [] ?hi13n14ns (by kernel_rfl) (by kernel_rfl) (by kernel_rfl) (by kernel_rfl) (by kernel_rfl) (Or.inr ⟨?hw13n14ns, rfl⟩) HS.out ?rest13n14ns
        case hi13n14ns => (simp only [List.getElem?_toArray, List.getElem?_cons_succ, List.getElem?_cons_zero]; rfl)
        case hw13n14ns => rfl
        try simp only [Act.put, List.setIfInBounds_toArray, List.set_cons_zero, List.set_cons_succ]
        refine' wpAnyJ_take (i := 14) (v := _) [] ?hi14n15ns (by kernel_rfl) (by kernel_rfl) (by kernel_rfl) (by kernel_rfl) (by kernel_rfl) (Or.inr ⟨?hw14n15ns, rfl⟩) HS.out ?rest14n15ns
        case hi14n15ns => (simp only [List.getElem?_toArray, List.getElem?_cons_succ, List.getElem?_cons_zero]; rfl)
        case hw14n15ns => rfl
        try simp only [Act.put, List.setIfInBounds_toArray, List.set_cons_zero, List.set_cons_succ]
        refine' wpAnyJ_take (i := 15) (v := _) [] ?hi15n16ns (by kernel_rfl) (by kernel_rfl) (by kernel_rfl) (by kernel_rfl) (by kernel_rfl) (Or.inr ⟨?hw15n16ns, rfl⟩) HS.out ?rest15n16ns
        case hi15n16ns => (simp only [List.getElem?_toArray, List.getElem?_cons_succ, List.getElem?_cons_zero]; rfl)
        case hw15n16ns => rfl
        try simp only [Act.put, List.setIfInBounds_toArray, List.set_cons_zero, List.set_cons_succ]
        refine' wpAnyJ_take (i := 16) (v := _) [] ?hi16n17ns (by kernel_rfl) (by kernel_rfl) (by kernel_rfl) (by kernel_rfl) (by kernel_rfl) (Or.inl ⟨?hw16n17ns, ?hy16n17ns⟩) HS.out ?rest16n17ns
        case hi16n17ns => (simp only [List.getElem?_toArray, List.getElem?_cons_succ, List.getElem?_cons_zero]; rfl)
        case hw16n17ns => rfl
        case hy16n17ns => (intro w' hw'; go_simp; try with_reducible rfl)
        try simp only [Act.put, List.setIfInBounds_toArray, List.set_cons_zero, List.set_cons_succ]
        refine' wpAnyJ_take (i := 17) (v := _) [] ?hi17n18ns (by kernel_rfl) (by kernel_rfl) (by kernel_rfl) (by kernel_rfl) (by kernel_rfl) (Or.inl ⟨?hw17n18ns, ?hy17n18ns⟩) HS.out ?rest17n18ns
        case hi17n18ns => (simp only [List.getElem?_toArray, List.getElem?_cons_succ, List.getElem?_cons_zero]; rfl)
        case hw17n18ns => rfl
        case hy17n18ns => (intro w' hw'; go_simp; try with_reducible rfl)
        try simp only [Act.put, List.setIfInBounds_toArray, List.set_cons_zero, List.set_cons_succ]
        refine wpAnyJ_done (by kernel_rfl) ?_ _
        refine NoPanic.normal ?_
        go_wp2_with fail
        go_meet
        exact ⟨rfl, HH.out, HF.out⟩
      | some a =>
        subst hpa
        cases hpb : pb with
        | none =>
          subst hpb
          refine j_startS [] (S := (fun W : World => W.cell? ⟨x, 0, none⟩ = some (.pointer (some ⟨a, 0, none⟩)) ∧ W.cell? ⟨x + 1, 0, none⟩ = some (.pointer none))) (by kernel_rfl) ?_
          obtain ⟨ud, hud⟩ : ∃ ud, w.drew = ud := ⟨_, rfl⟩
          have HH := hide (HH.out.below (by rw [← hud]; exact (Below.refl _ _).drew) : LkS w0 ud x (some a) none F G L)
          have HF : Hid (Sets (LkB x (some a) none) w ud) := hide (by rw [← hud]; exact (Sets.refl (S := LkB x (some a) none) w).drew)
          have HS : Hid ((fun W : World => W.cell? ⟨x, 0, none⟩ = some (.pointer (some ⟨a, 0, none⟩)) ∧ W.cell? ⟨x + 1, 0, none⟩ = some (.pointer none)) ud) := hide ⟨(cell_of_row _ _ 0 _ _ _ HH.out.bA).trans rfl, (cell_of_row _ _ 0 _ _ _ HH.out.bB).trans rfl⟩
          rw [hud]
          clear hud
          refine' wpAnyJ_take (i := 0) (v := _) [] ?hi0n1ms (by kernel_rfl) (by kernel_rfl) (by kernel_rfl) (by kernel_rfl) (by kernel_rfl) (Or.inl ⟨?hw0n1ms, ?hy0n1ms⟩) HS.out ?rest0n1ms
          case hi0n1ms => (simp only [List.getElem?_toArray, List.getElem?_cons_succ, List.getElem?_cons_zero]; rfl)
          case hw0n1ms => rfl
          case hy0n1ms => (intro w' hw'; have h0 := hw'.1; go_simp; try with_reducible rfl)
          try simp only [Act.put, List.setIfInBounds_toArray, List.set_cons_zero, List.set_cons_succ]
          refine' wpAnyJ_take (i := 1) (v := _) [] ?hi1n2ms (by kernel_rfl) (by kernel_rfl) (by kernel_rfl) (by kernel_rfl) (by kernel_rfl) (Or.inl ⟨?hw1n2ms, ?hy1n2ms⟩) HS.out ?rest1n2ms
          case hi1n2ms => (simp only [List.getElem?_toArray, List.getElem?_cons_succ, List.getElem?_cons_zero]; rfl)
          case hw1n2ms => rfl
          case hy1n2ms => (intro w' hw'; go_simp; try with_reducible rfl)
          try simp only [Act.put, List.setIfInBounds_toArray, List.set_cons_zero, List.set_cons_succ]
          refine' wpAnyJ_take (i := 2) (v := _) [] ?hi2n3ms (by kernel_rfl) (by kernel_rfl) (by kernel_rfl) (by kernel_rfl) (by kernel_rfl) (Or.inl ⟨?hw2n3ms, ?hy2n3ms⟩) HS.out ?rest2n3ms
          case hi2n3ms => (simp only [List.getElem?_toArray, List.getElem?_cons_succ, List.getElem?_cons_zero]; rfl)
          case hw2n3ms => rfl
          case hy2n3ms => (intro w' hw'; go_simp; try with_reducible rfl)
          try simp only [Act.put, List.setIfInBounds_toArray, List.set_cons_zero, List.set_cons_succ]
          refine' wpAnyJ_take (i := 3) (v := _) [] ?hi3n4ms (by kernel_rfl) (by kernel_rfl) (by kernel_rfl) (by kernel_rfl) (by kernel_rfl) (Or.inl ⟨?hw3n4ms, ?hy3n4ms⟩) HS.out ?rest3n4ms
          case hi3n4ms => (simp only [List.getElem?_toArray, List.getElem?_cons_succ, List.getElem?_cons_zero]; rfl)
          case hw3n4ms => rfl
          case hy3n4ms => (intro w' hw'; have h0 := hw'.2; go_simp; try with_reducible rfl)
          try simp only [Act.put, List.setIfInBounds_toArray, List.set_cons_zero, List.set_cons_succ]
          refine' wpAnyJ_take (i := 4) (v := _) [] ?hi4n5ms (by kernel_rfl) (by kernel_rfl) (by kernel_rfl) (by kernel_rfl) (by kernel_rfl) (Or.inl ⟨?hw4n5ms, ?hy4n5ms⟩) HS.out ?rest4n5ms
          case hi4n5ms => (simp only [List.getElem?_toArray, List.getElem?_cons_succ, List.getElem?_cons_zero]; rfl)
          case hw4n5ms => rfl
          case hy4n5ms => (intro w' hw'; go_simp; try with_reducible rfl)
          try simp only [Act.put, List.setIfInBounds_toArray, List.set_cons_zero, List.set_cons_succ]
          refine' wpAnyJ_take (i := 5) (v := _) [] ?hi5n6ms (by kernel_rfl) (by kernel_rfl) (by kernel_rfl) (by kernel_rfl) (by kernel_rfl) (Or.inl ⟨?hw5n6ms, ?hy5n6ms⟩) HS.out ?rest5n6ms
          case hi5n6ms => (simp only [List.getElem?_toArray, List.getElem?_cons_succ, List.getElem?_cons_zero]; rfl)
          case hw5n6ms => rfl
          case hy5n6ms => (intro w' hw'; go_simp; try with_reducible rfl)
          try simp only [Act.put, List.setIfInBounds_toArray, List.set_cons_zero, List.set_cons_succ]
          refine' wpAnyJ_take (i := 6) (v := _) [] ?hi6n7ms (by kernel_rfl) (by kernel_rfl) (by kernel_rfl) (by kernel_rfl) (by kernel_rfl) (Or.inl ⟨?hw6n7ms, ?hy6n7ms⟩) HS.out ?rest6n7ms
          case hi6n7ms => (simp only [List.getElem?_toArray, List.getElem?_cons_succ, List.getElem?_cons_zero]; rfl)
          case hw6n7ms => rfl
          case hy6n7ms => (intro w' hw'; go_simp; try with_reducible rfl)
          try simp only [Act.put, List.setIfInBounds_toArray, List.set_cons_zero, List.set_cons_succ]
          refine' wpAnyJ_take (i := 7) (v := _) [] ?hi7n8ms (by kernel_rfl) (by kernel_rfl) (by kernel_rfl) (by kernel_rfl) (by kernel_rfl) (Or.inr ⟨?hw7n8ms, rfl⟩) HS.out ?rest7n8ms
          case hi7n8ms => (simp only [List.getElem?_toArray, List.getElem?_cons_succ, List.getElem?_cons_zero]; rfl)
          case hw7n8ms => rfl
          try simp only [Act.put, List.setIfInBounds_toArray, List.set_cons_zero, List.set_cons_succ]
          refine' wpAnyJ_take (i := 8) (v := _) [] ?hi8n9ms (by kernel_rfl) (by kernel_rfl) (by kernel_rfl) (by kernel_rfl) (by kernel_rfl) (Or.inr ⟨?hw8n9ms, rfl⟩) HS.out ?rest8n9ms
          case hi8n9ms => (simp only [List.getElem?_toArray, List.getElem?_cons_succ, List.getElem?_cons_zero]; rfl)
          case hw8n9ms => rfl
          try simp only [Act.put, List.setIfInBounds_toArray, List.set_cons_zero, List.set_cons_succ]
          refine' wpAnyJ_take (i := 9) (v := _) [] ?hi9n10ms (by kernel_rfl) (by kernel_rfl) (by kernel_rfl) (by kernel_rfl) (by kernel_rfl) (Or.inr ⟨?hw9n10ms, rfl⟩) HS.out ?rest9n10ms
          case hi9n10ms => (simp only [List.getElem?_toArray, List.getElem?_cons_succ, List.getElem?_cons_zero]; rfl)
          case hw9n10ms => rfl
          try simp only [Act.put, List.setIfInBounds_toArray, List.set_cons_zero, List.set_cons_succ]
          refine' wpAnyJ_take (i := 10) (v := _) [] ?hi10n11ms (by kernel_rfl) (by kernel_rfl) (by kernel_rfl) (by kernel_rfl) (by kernel_rfl) (Or.inr ⟨?hw10n11ms, rfl⟩) HS.out ?rest10n11ms
          case hi10n11ms => (simp only [List.getElem?_toArray, List.getElem?_cons_succ, List.getElem?_cons_zero]; rfl)
          case hw10n11ms => rfl
          try simp only [Act.put, List.setIfInBounds_toArray, List.set_cons_zero, List.set_cons_succ]
          refine' wpAnyJ_take (i := 11) (v := _) [] ?hi11n12ms (by kernel_rfl) (by kernel_rfl) (by kernel_rfl) (by kernel_rfl) (by kernel_rfl) (Or.inr ⟨?hw11n12ms, rfl⟩) HS.out ?rest11n12ms
          case hi11n12ms => (simp only [List.getElem?_toArray, List.getElem?_cons_succ, List.getElem?_cons_zero]; rfl)
          case hw11n12ms => rfl
          try simp only [Act.put, List.setIfInBounds_toArray, List.set_cons_zero, List.set_cons_succ]
          refine' wpAnyJ_take (i := 12) (v := _) [] ?hi12n13ms (by kernel_rfl) (by kernel_rfl) (by kernel_rfl) (by kernel_rfl) (by kernel_rfl) (Or.inr ⟨?hw12n13ms, rfl⟩) HS.out ?rest12n13ms
          case hi12n13ms => (simp only [List.getElem?_toArray, List.getElem?_cons_succ, List.getElem?_cons_zero]; rfl)
          case hw12n13ms => rfl
          try simp only [Act.put, List.setIfInBounds_toArray, List.set_cons_zero, List.set_cons_succ]
          refine' wpAnyJ_take (i := 13) (v := _) [] ?hi13n14ms (by kernel_rfl) (by kernel_rfl) (by kernel_rfl) (by kernel_rfl) (by kernel_rfl) (Or.inr ⟨?hw13n14ms, rfl⟩) HS.out ?rest13n14ms
          case hi13n14ms => (simp only [List.getElem?_toArray, List.getElem?_cons_succ, List.getElem?_cons_zero]; rfl)
          case hw13n14ms => rfl
          try simp only [Act.put, List.setIfInBounds_toArray, List.set_cons_zero, List.set_cons_succ]
          refine' wpAnyJ_take (i := 14) (v := _) [] ?hi14n15ms (by kernel_rfl) (by kernel_rfl) (by kernel_rfl) (by kernel_rfl) (by kernel_rfl) (Or.inr ⟨?hw14n15ms, rfl⟩) HS.out ?rest14n15ms
          case hi14n15ms => (simp only [List.getElem?_toArray, List.getElem?_cons_succ, List.getElem?_cons_zero]; rfl)
          case hw14n15ms => rfl
          try simp only [Act.put, List.setIfInBounds_toArray, List.set_cons_zero, List.set_cons_succ]
          refine' wpAnyJ_take (i := 15) (v := _) [] ?hi15n16ms (by kernel_rfl) (by kernel_rfl) (by kernel_rfl) (by kernel_rfl) (by kernel_rfl) (Or.inr ⟨?hw15n16ms, rfl⟩) HS.out ?rest15n16ms
          case hi15n16ms => (simp only [List.getElem?_toArray, List.getElem?_cons_succ, List.getElem?_cons_zero]; rfl)
          case hw15n16ms => rfl
          try simp only [Act.put, List.setIfInBounds_toArray, List.set_cons_zero, List.set_cons_succ]
          refine' wpAnyJ_take (i := 16) (v := _) [] ?hi16n17ms (by kernel_rfl) (by kernel_rfl) (by kernel_rfl) (by kernel_rfl) (by kernel_rfl) (Or.inl ⟨?hw16n17ms, ?hy16n17ms⟩) HS.out ?rest16n17ms
          case hi16n17ms => (simp only [List.getElem?_toArray, List.getElem?_cons_succ, List.getElem?_cons_zero]; rfl)
          case hw16n17ms => rfl
          case hy16n17ms => (intro w' hw'; go_simp; try with_reducible rfl)
          try simp only [Act.put, List.setIfInBounds_toArray, List.set_cons_zero, List.set_cons_succ]
          refine' wpAnyJ_take (i := 17) (v := _) [] ?hi17n18ms (by kernel_rfl) (by kernel_rfl) (by kernel_rfl) (by kernel_rfl) (by kernel_rfl) (Or.inl ⟨?hw17n18ms, ?hy17n18ms⟩) HS.out ?rest17n18ms
          case hi17n18ms => (simp only [List.getElem?_toArray, List.getElem?_cons_succ, List.getElem?_cons_zero]; rfl)
          case hw17n18ms => rfl
          case hy17n18ms => (intro w' hw'; go_simp; try with_reducible rfl)
          try simp only [Act.put, List.setIfInBounds_toArray, List.set_cons_zero, List.set_cons_succ]
          refine wpAnyJ_done (by kernel_rfl) ?_ _
          refine NoPanic.normal ?_
          go_wp2_with fail
          go_meet
          exact ⟨rfl, HH.out, HF.out⟩
        | some c =>
          subst hpb
          have hne : a ≠ c := fun e => HH.out.ne a rfl (by rw [e])
          refine j_startS [] (S := (fun W : World => W.cell? ⟨x, 0, none⟩ = some (.pointer (some ⟨a, 0, none⟩)) ∧ W.cell? ⟨x + 1, 0, none⟩ = some (.pointer (some ⟨c, 0, none⟩)))) (by kernel_rfl) ?_
          obtain ⟨ud, hud⟩ : ∃ ud, w.drew = ud := ⟨_, rfl⟩
          have HH := hide (HH.out.below (by rw [← hud]; exact (Below.refl _ _).drew) : LkS w0 ud x (some a) (some c) F G L)
          have HF : Hid (Sets (LkB x (some a) (some c)) w ud) := hide (by rw [← hud]; exact (Sets.refl (S := LkB x (some a) (some c)) w).drew)
          have HS : Hid ((fun W : World => W.cell? ⟨x, 0, none⟩ = some (.pointer (some ⟨a, 0, none⟩)) ∧ W.cell? ⟨x + 1, 0, none⟩ = some (.pointer (some ⟨c, 0, none⟩))) ud) := hide ⟨(cell_of_row _ _ 0 _ _ _ HH.out.bA).trans rfl, (cell_of_row _ _ 0 _ _ _ HH.out.bB).trans rfl⟩
          rw [hud]
          clear hud
          refine' wpAnyJ_take (i := 0) (v := _) [] ?hi0n1cs (by kernel_rfl) (by kernel_rfl) (by kernel_rfl) (by kernel_rfl) (by kernel_rfl) (Or.inl ⟨?hw0n1cs, ?hy0n1cs⟩) HS.out ?rest0n1cs
          case hi0n1cs => (simp only [List.getElem?_toArray, List.getElem?_cons_succ, List.getElem?_cons_zero]; rfl)
          case hw0n1cs => rfl
          case hy0n1cs => (intro w' hw'; have h0 := hw'.1; go_simp; try with_reducible rfl)
          try simp only [Act.put, List.setIfInBounds_toArray, List.set_cons_zero, List.set_cons_succ]
          refine' wpAnyJ_take (i := 1) (v := _) [] ?hi1n2cs (by kernel_rfl) (by kernel_rfl) (by kernel_rfl) (by kernel_rfl) (by kernel_rfl) (Or.inl ⟨?hw1n2cs, ?hy1n2cs⟩) HS.out ?rest1n2cs
          case hi1n2cs => (simp only [List.getElem?_toArray, List.getElem?_cons_succ, List.getElem?_cons_zero]; rfl)
          case hw1n2cs => rfl
          case hy1n2cs => (intro w' hw'; go_simp; try with_reducible rfl)
          try simp only [Act.put, List.setIfInBounds_toArray, List.set_cons_zero, List.set_cons_succ]
          refine' wpAnyJ_take (i := 2) (v := _) [] ?hi2n3cs (by kernel_rfl) (by kernel_rfl) (by kernel_rfl) (by kernel_rfl) (by kernel_rfl) (Or.inl ⟨?hw2n3cs, ?hy2n3cs⟩) HS.out ?rest2n3cs
          case hi2n3cs => (simp only [List.getElem?_toArray, List.getElem?_cons_succ, List.getElem?_cons_zero]; rfl)
          case hw2n3cs => rfl
          case hy2n3cs => (intro w' hw'; go_simp; try with_reducible rfl)
          try simp only [Act.put, List.setIfInBounds_toArray, List.set_cons_zero, List.set_cons_succ]
          refine' wpAnyJ_take (i := 3) (v := _) [] ?hi3n4cs (by kernel_rfl) (by kernel_rfl) (by kernel_rfl) (by kernel_rfl) (by kernel_rfl) (Or.inl ⟨?hw3n4cs, ?hy3n4cs⟩) HS.out ?rest3n4cs
          case hi3n4cs => (simp only [List.getElem?_toArray, List.getElem?_cons_succ, List.getElem?_cons_zero]; rfl)
          case hw3n4cs => rfl
          case hy3n4cs => (intro w' hw'; have h0 := hw'.2; go_simp; try with_reducible rfl)
          try simp only [Act.put, List.setIfInBounds_toArray, List.set_cons_zero, List.set_cons_succ]
          refine' wpAnyJ_take (i := 4) (v := _) [] ?hi4n5cs (by kernel_rfl) (by kernel_rfl) (by kernel_rfl) (by kernel_rfl) (by kernel_rfl) (Or.inl ⟨?hw4n5cs, ?hy4n5cs⟩) HS.out ?rest4n5cs
          case hi4n5cs => (simp only [List.getElem?_toArray, List.getElem?_cons_succ, List.getElem?_cons_zero]; rfl)
          case hw4n5cs => rfl
          case hy4n5cs => (intro w' hw'; go_simp; try with_reducible rfl)
          try simp only [Act.put, List.setIfInBounds_toArray, List.set_cons_zero, List.set_cons_succ]
          refine' wpAnyJ_take (i := 5) (v := _) [] ?hi5n6cs (by kernel_rfl) (by kernel_rfl) (by kernel_rfl) (by kernel_rfl) (by kernel_rfl) (Or.inl ⟨?hw5n6cs, ?hy5n6cs⟩) HS.out ?rest5n6cs
          case hi5n6cs => (simp only [List.getElem?_toArray, List.getElem?_cons_succ, List.getElem?_cons_zero]; rfl)
          case hw5n6cs => rfl
          case hy5n6cs => (intro w' hw'; go_simp; try with_reducible rfl)
          try simp only [Act.put, List.setIfInBounds_toArray, List.set_cons_zero, List.set_cons_succ]
          refine' wpAnyJ_take (i := 6) (v := _) [] ?hi6n7cs (by kernel_rfl) (by kernel_rfl) (by kernel_rfl) (by kernel_rfl) (by kernel_rfl) (Or.inl ⟨?hw6n7cs, ?hy6n7cs⟩) HS.out ?rest6n7cs
          case hi6n7cs => (simp only [List.getElem?_toArray, List.getElem?_cons_succ, List.getElem?_cons_zero]; rfl)
          case hw6n7cs => rfl
          case hy6n7cs => (intro w' hw'; go_simp; try with_reducible rfl)
          try simp only [Act.put, List.setIfInBounds_toArray, List.set_cons_zero, List.set_cons_succ]
          refine' wpAnyJ_take (i := 7) (v := _) [] ?hi7n8cs (by kernel_rfl) (by kernel_rfl) (by kernel_rfl) (by kernel_rfl) (by kernel_rfl) (Or.inl ⟨?hw7n8cs, ?hy7n8cs⟩) HS.out ?rest7n8cs
          case hi7n8cs => (simp only [List.getElem?_toArray, List.getElem?_cons_succ, List.getElem?_cons_zero]; rfl)
          case hw7n8cs => rfl
          case hy7n8cs => (intro w' hw'; have h0 := hw'.1; go_simp; try with_reducible rfl)
          try simp only [Act.put, List.setIfInBounds_toArray, List.set_cons_zero, List.set_cons_succ]
          refine' wpAnyJ_take (i := 8) (v := _) [] ?hi8n9cs (by kernel_rfl) (by kernel_rfl) (by kernel_rfl) (by kernel_rfl) (by kernel_rfl) (Or.inl ⟨?hw8n9cs, ?hy8n9cs⟩) HS.out ?rest8n9cs
          case hi8n9cs => (simp only [List.getElem?_toArray, List.getElem?_cons_succ, List.getElem?_cons_zero]; rfl)
          case hw8n9cs => rfl
          case hy8n9cs => (intro w' hw'; go_simp; try with_reducible rfl)
          try simp only [Act.put, List.setIfInBounds_toArray, List.set_cons_zero, List.set_cons_succ]
          refine' wpAnyJ_take (i := 9) (v := _) [] ?hi9n10cs (by kernel_rfl) (by kernel_rfl) (by kernel_rfl) (by kernel_rfl) (by kernel_rfl) (Or.inl ⟨?hw9n10cs, ?hy9n10cs⟩) HS.out ?rest9n10cs
          case hi9n10cs => (simp only [List.getElem?_toArray, List.getElem?_cons_succ, List.getElem?_cons_zero]; rfl)
          case hw9n10cs => rfl
          case hy9n10cs => (intro w' hw'; go_simp; try with_reducible rfl)
          try simp only [Act.put, List.setIfInBounds_toArray, List.set_cons_zero, List.set_cons_succ]
          refine' wpAnyJ_take (i := 11) (v := _) [] ?hi11n11cs (by kernel_rfl) (by kernel_rfl) (by kernel_rfl) (by kernel_rfl) (by kernel_rfl) (Or.inl ⟨?hw11n11cs, ?hy11n11cs⟩) HS.out ?rest11n11cs
          case hi11n11cs => (simp only [List.getElem?_toArray, List.getElem?_cons_succ, List.getElem?_cons_zero]; rfl)
          case hw11n11cs => rfl
          case hy11n11cs => (intro w' hw'; have h0 := hw'.2; go_simp; try with_reducible rfl)
          try simp only [Act.put, List.setIfInBounds_toArray, List.set_cons_zero, List.set_cons_succ]
          refine' wpAnyJ_take (i := 12) (v := _) [] ?hi12n12cs (by kernel_rfl) (by kernel_rfl) (by kernel_rfl) (by kernel_rfl) (by kernel_rfl) (Or.inl ⟨?hw12n12cs, ?hy12n12cs⟩) HS.out ?rest12n12cs
          case hi12n12cs => (simp only [List.getElem?_toArray, List.getElem?_cons_succ, List.getElem?_cons_zero]; rfl)
          case hw12n12cs => rfl
          case hy12n12cs => (intro w' hw'; go_simp; try with_reducible rfl)
          try simp only [Act.put, List.setIfInBounds_toArray, List.set_cons_zero, List.set_cons_succ]
          refine' wpAnyJ_take (i := 13) (v := _) [] ?hi13n13cs (by kernel_rfl) (by kernel_rfl) (by kernel_rfl) (by kernel_rfl) (by kernel_rfl) (Or.inl ⟨?hw13n13cs, ?hy13n13cs⟩) HS.out ?rest13n13cs
          case hi13n13cs => (simp only [List.getElem?_toArray, List.getElem?_cons_succ, List.getElem?_cons_zero]; rfl)
          case hw13n13cs => rfl
          case hy13n13cs => (intro w' hw'; go_simp; try with_reducible rfl)
          try simp only [Act.put, List.setIfInBounds_toArray, List.set_cons_zero, List.set_cons_succ]
          refine' wpAnyJ_step (i := 10) (o := _) (by kernel_rfl) ?ho10n14cs (fun K hK => ?step10n14cs)
          case ho10n14cs => (simp only [List.getElem?_toArray, List.getElem?_cons_succ, List.getElem?_cons_zero]; rfl)
          go_simp
          refine (Calls.mono (node_any (HH.out.ta a rfl) m i hl hi) ?_); rintro e u1 ⟨rfl, hT, hS⟩
          have HH := hide (HH.out.summed a (.inl rfl) hS (fun q hq => by obtain rfl := Option.some.inj hq; exact hT) (fun q hq => by obtain rfl := Option.some.inj hq; exact (HH.out.tc _ rfl).apart (HH.out.ta a rfl) (fun e => hne e.symm) hS))
          have HF := hide (HF.out.trans hS (fun _ _ e => .inl (by rw [e])))
          have HS : Hid ((fun W : World => W.cell? ⟨x, 0, none⟩ = some (.pointer (some ⟨a, 0, none⟩)) ∧ W.cell? ⟨x + 1, 0, none⟩ = some (.pointer (some ⟨c, 0, none⟩))) u1) := hide ⟨(cell_of_row _ _ 0 _ _ _ HH.out.bA).trans rfl, (cell_of_row _ _ 0 _ _ _ HH.out.bB).trans rfl⟩
          clear hT hS
          refine hK.out _ _ HS.out ?_
          clear hK K
          try simp only [Act.put, List.setIfInBounds_toArray, List.set_cons_zero, List.set_cons_succ]
          refine' wpAnyJ_step (i := 14) (o := _) (by kernel_rfl) ?ho14n15cs (fun K hK => ?step14n15cs)
          case ho14n15cs => (simp only [List.getElem?_toArray, List.getElem?_cons_succ, List.getElem?_cons_zero]; rfl)
          go_simp
          refine (Calls.mono (node_any (HH.out.tc c rfl) m i hl hi) ?_); rintro e u2 ⟨rfl, hT, hS⟩
          have HH := hide (HH.out.summed c (.inr rfl) hS (fun q hq => by obtain rfl := Option.some.inj hq; exact (HH.out.ta _ rfl).apart (HH.out.tc c rfl) hne hS) (fun q hq => by obtain rfl := Option.some.inj hq; exact hT))
          have HF := hide (HF.out.trans hS (fun _ _ e => .inr (.inl (by rw [e]))))
          have HS : Hid ((fun W : World => W.cell? ⟨x, 0, none⟩ = some (.pointer (some ⟨a, 0, none⟩)) ∧ W.cell? ⟨x + 1, 0, none⟩ = some (.pointer (some ⟨c, 0, none⟩))) u2) := hide ⟨(cell_of_row _ _ 0 _ _ _ HH.out.bA).trans rfl, (cell_of_row _ _ 0 _ _ _ HH.out.bB).trans rfl⟩
          clear hT hS
          refine hK.out _ _ HS.out ?_
          clear hK K
          try simp only [Act.put, List.setIfInBounds_toArray, List.set_cons_zero, List.set_cons_succ]
          refine' wpAnyJ_take (i := 15) (v := _) [] ?hi15n16cs (by kernel_rfl) (by kernel_rfl) (by kernel_rfl) (by kernel_rfl) (by kernel_rfl) (Or.inl ⟨?hw15n16cs, ?hy15n16cs⟩) HS.out ?rest15n16cs
          case hi15n16cs => (simp only [List.getElem?_toArray, List.getElem?_cons_succ, List.getElem?_cons_zero]; rfl)
          case hw15n16cs => rfl
          case hy15n16cs => (intro w' hw'; go_simp; try with_reducible rfl)
          try simp only [Act.put, List.setIfInBounds_toArray, List.set_cons_zero, List.set_cons_succ]
          refine' wpAnyJ_take (i := 16) (v := _) [] ?hi16n17cs (by kernel_rfl) (by kernel_rfl) (by kernel_rfl) (by kernel_rfl) (by kernel_rfl) (Or.inl ⟨?hw16n17cs, ?hy16n17cs⟩) HS.out ?rest16n17cs
          case hi16n17cs => (simp only [List.getElem?_toArray, List.getElem?_cons_succ, List.getElem?_cons_zero]; rfl)
          case hw16n17cs => rfl
          case hy16n17cs => (intro w' hw'; go_simp; try with_reducible rfl)
          try simp only [Act.put, List.setIfInBounds_toArray, List.set_cons_zero, List.set_cons_succ]
          refine' wpAnyJ_take (i := 17) (v := _) [] ?hi17n18cs (by kernel_rfl) (by kernel_rfl) (by kernel_rfl) (by kernel_rfl) (by kernel_rfl) (Or.inl ⟨?hw17n18cs, ?hy17n18cs⟩) HS.out ?rest17n18cs
          case hi17n18cs => (simp only [List.getElem?_toArray, List.getElem?_cons_succ, List.getElem?_cons_zero]; rfl)
          case hw17n18cs => rfl
          case hy17n18cs => (intro w' hw'; go_simp; try with_reducible rfl)
          try simp only [Act.put, List.setIfInBounds_toArray, List.set_cons_zero, List.set_cons_succ]
          refine wpAnyJ_done (by kernel_rfl) ?_ _
          refine NoPanic.normal ?_
          go_wp2_with fail
          go_meet
          exact ⟨rfl, HH.out, HF.out⟩
    case rest =>
      obtain ⟨rfl, h2, hs2⟩ := hcut
      have H2 := hide h2
      have HS2 := hide hs2
      clear h2 hs2 HH
      obtain ⟨q, hq⟩ : ∃ q, sameN pa pb F G m i = q := ⟨_, rfl⟩
      have HQ := hide hq
      rw [hq]
      clear hq
      cases q with
      | true =>
        clear ih hL
        go_wp2_with fail
        go_end0
        exact ⟨rfl, by rw [show difL (sameN pa pb F G) m i = [] from by rw [HM.out]; unfold difL; rw [← HM.out, HQ.out]; rfl, List.append_nil]; exact H2.out, HS2.out⟩
      | false =>
        have hmI : ¬ (m : Int) = 0 := by have := HM.out; omega
        have hml := HM.out
        have hp2 : 2 ^ (8 - l) = 2 * 2 ^ (8 - m) := by rw [show 8 - l = (8 - m) + 1 by omega, Nat.pow_succ]; omega
        have hpm : 2 ^ m = 2 * 2 ^ l := by rw [hml, Nat.pow_succ]; omega
        have hi1 : 2 * i < 2 ^ (8 - l) := by omega
        have hi2 : 2 * i + 1 < 2 ^ (8 - l) := by omega
        have hm1 : IntKind.i64.wrap ((m : Int) - 1) = (l : Int) := by rw [IntKind.wrap_i64]; omega
        have hib : i < 256 := by
          have h1 : 2 ^ (8 - m) ≤ 2 ^ 8 := Nat.pow_le_pow_right (by omega) (by omega)
          have h2 : (2 : Nat) ^ 8 = 256 := rfl
          omega
        have hw1 : IntKind.i64.wrap (2 * (i : Int)) = ((2 * i : Nat) : Int) := by rw [IntKind.wrap_i64]; omega
        have hw2 : IntKind.i64.wrap (((2 * i : Nat) : Int) + 1) = ((2 * i + 1 : Nat) : Int) := by rw [IntKind.wrap_i64]; omega
        have hw3 : IntKind.i64.wrap (IntKind.i64.wrap (2 * (i : Int)) + 1) = ((2 * i + 1 : Nat) : Int) := by rw [hw1, hw2]
        have I1 := hide (ih l rfl (2 * i) (by omega) hi1 wc L (by omega) H2.out)
        have hd1 := difL_len (sameN pa pb F G) l (2 * i)
        have HI2 := hide (fun (w : World) (h : LkS w0 w x pa pb F G (L ++ difL (sameN pa pb F G) l (2 * i))) => ih l rfl (2 * i + 1) (by omega) hi2 w _ (by rw [List.length_append]; omega) h)
        have HDL : Hid (difL (sameN pa pb F G) m i = difL (sameN pa pb F G) l (2 * i) ++ difL (sameN pa pb F G) l (2 * i + 1)) := hide (by
          have h := HQ.out
          rw [hml] at h ⊢
          show (if sameN pa pb F G (l + 1) i then [] else _) = _
          rw [h]
          rfl)
        have hlk := (cell_of_row _ _ 0 _ _ _ H2.out.bL).trans rfl
        obtain ⟨i2, hi2e⟩ : ∃ i2, 2 * i = i2 := ⟨_, rfl⟩
        rw [hi2e] at hw1 hw2 hw3 I1 HI2 HDL
        clear ih hp2 hpm hi1 hi2 hd1 hib hml hi2e hi hL hl
        go_wp2_with fail
        refine (Calls.mono I1.out ?_); rintro e w3 ⟨rfl, h3, hs3⟩
        have H3 := hide h3
        have HS3 := hide (HS2.out.trans hs3 (fun _ _ h => h))
        have I2 := hide (HI2.out w3 h3)
        have hlk3 := (cell_of_row _ _ 0 _ _ _ h3.bL).trans rfl
        clear h3 hs3 hlk
        go_wp2_with fail
        refine (Calls.mono I2.out ?_); rintro e w4 ⟨rfl, h4, hs4⟩
        have H4 := hide h4
        have HS4 := hide (HS3.out.trans hs4 (fun _ _ h => h))
        clear h4 hs4 hlk3
        go_wp2_with fail
        go_end0
        exact ⟨rfl, by rw [HDL.out, ← List.append_assoc]; exact H4.out, HS4.out⟩
end Go.Proofs.Ythpbohheddkfiaa
