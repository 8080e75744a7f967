/- skip.List.Put whole: what becomes of items and heights, and of the list. Plain words of the items that come so. Conditions: the list as it reads. -/
import Derived.Test.YtoejhekmfgkklaaSkP
namespace Go.Proofs.Ytoejhekmfgkklaa
set_option linter.unusedVariables false
set_option linter.unusedSimpArgs false
open Go.ChangeShapes Go.WideShapes Go.ChangeAt Go.RowKit

/-- The item wins over the one that is the same. -/
def winsAt (x : It) (L : List It) : Bool := match L[lowI x L]? with
  | some y => winsB x y
  | none => true
/-- An item that may be, put. -/
def skP (x : It) (L : List It) : List It := if sameAt x L = true then (if winsAt x L = true then L.set (lowI x L) x else L) else L.take (lowI x L) ++ x :: L.drop (lowI x L)
def okP (x : It) (h : Int) : Bool := goodB x && decide (1 ≤ h) && decide (h ≤ 6)
def skL (x : It) (h : Int) (L : List It) : List It := if okP x h = true then skP x L else L
def skH (x : It) (h : Int) (L : List It) (H : List Nat) : List Nat := if okP x h = true then (if sameAt x L = true then H else H.take (lowI x L) ++ h.toNat :: H.drop (lowI x L)) else H
def skR (x : It) (h : Int) (L : List It) : Bool := okP x h && (!sameAt x L || winsAt x L)
def skE (x : It) (h : Int) : Int := if okP x h = true then 0 else 1
theorem okP_iff {x : It} {h : Int} : okP x h = true ↔ goodB x = true ∧ 1 ≤ h ∧ h ≤ 6 := by unfold okP; simp [and_assoc]
theorem skP_putL {x : It} {L : List It} (h : sameAt x L = false ∨ winsAt x L = true) : skP x L = putL x L := by
  unfold skP
  cases hs : sameAt x L with
  | true =>
    rw [hs] at h
    rw [if_pos rfl, if_pos (by simpa using h), putL_same hs]
  | false => rw [if_neg (by simp), putL_else hs]
theorem skP_keep {x : It} {L : List It} (h : sameAt x L = true) (hw : winsAt x L = false) : skP x L = L := by
  unfold skP
  rw [if_pos h, if_neg (by simp [hw])]
theorem rising_skP {x : It} {L : List It} (h : Rising L) : Rising (skP x L) := by
  by_cases e : sameAt x L = true ∧ winsAt x L = false
  · rw [skP_keep e.1 e.2]
    exact h
  · rw [skP_putL (by cases hs : sameAt x L <;> cases hw : winsAt x L <;> simp_all)]
    exact rising_putL h
theorem rising_skL {x : It} {h : Int} {L : List It} (hr : Rising L) : Rising (skL x h L) := by
  unfold skL
  split
  · exact rising_skP hr
  · exact hr

/-- x is the first of its place. -/
def Top (S : List It) (x : It) : Prop := x ∈ S ∧ ∀ y ∈ S, It.same x y → ¬ It.wins y x
structure IsTop (S L : List It) : Prop where
  up : Rising L
  mem : ∀ x, x ∈ L ↔ Top S x
theorem IsTop.uniq {S L M : List It} (h : IsTop S L) (k : IsTop S M) : L = M := rising_ext h.up k.up fun x => (h.mem x).trans (k.mem x).symm
theorem IsTop.congr {S T L : List It} (h : ∀ x, x ∈ S ↔ x ∈ T) (k : IsTop S L) : IsTop T L := by
  refine ⟨k.up, fun x => (k.mem x).trans ?_⟩
  unfold Top
  rw [h x]
  constructor
  · rintro ⟨a, b⟩
    exact ⟨a, fun y hy => b y ((h y).2 hy)⟩
  · rintro ⟨a, b⟩
    exact ⟨a, fun y hy => b y ((h y).1 hy)⟩
theorem isTop_nil : IsTop [] [] := ⟨Rising.nil_, fun x => by simp [Top]⟩
theorem skP_top {S L : List It} (h : IsTop S L) (x : It) : IsTop (x :: S) (skP x L) := by
  refine ⟨rising_skP h.up, fun z => ?_⟩
  have hbest : ∀ u ∈ S, It.same u x → ∃ y ∈ L, It.same y x ∧ ¬ It.wins u y := by
    intro u hu hs
    obtain ⟨y, hy, hsy, hwy, hb⟩ := best_ex S u hu
    exact ⟨y, (h.mem y).2 ⟨hy, fun v hv hsv => hb v hv (by unfold It.same at *; omega)⟩, by unfold It.same at *; omega, hwy⟩
  have hone : ∀ y ∈ L, It.same y x → ∃ hl : lowI x L < L.length, L[lowI x L] = y := fun y hy hs => sameAt_mem h.up hy hs
  by_cases e : sameAt x L = true ∧ winsAt x L = false
  · rw [skP_keep e.1 e.2, h.mem z]
    obtain ⟨hl, hsm⟩ := sameAt_true e.1
    have hw := e.2
    unfold winsAt at hw
    rw [List.getElem?_eq_getElem hl] at hw
    have hyS := (h.mem _).1 (List.getElem_mem hl)
    generalize L[lowI x L] = y at *
    have hsm : It.same y x := by simpa [sameB] using hsm
    have hw : ¬ It.wins x y := by simpa [winsB] using hw
    constructor
    · rintro ⟨hz, hzb⟩
      refine ⟨List.mem_cons_of_mem _ hz, fun u hu hs hwu => ?_⟩
      rcases List.mem_cons.1 hu with rfl | hu
      · have hzy := hzb y hyS.1 (by unfold It.same at *; omega)
        have hyz := hyS.2 z hz (by unfold It.same at *; omega)
        have := It.same_eq (a := y) (b := z) (by unfold It.same at *; omega) hzy hyz
        subst this
        exact hw hwu
      · exact hzb u hu hs hwu
    · rintro ⟨hz, hzb⟩
      rcases List.mem_cons.1 hz with rfl | hz
      · have := It.same_eq hsm (hzb y (List.mem_cons_of_mem _ hyS.1) (by unfold It.same at *; omega)) hw
        subst this
        exact hyS
      · exact ⟨hz, fun u hu => hzb u (List.mem_cons_of_mem _ hu)⟩
  · rw [skP_putL (by cases hs : sameAt x L <;> cases hw : winsAt x L <;> simp_all), mem_putL h.up, h.mem z]
    have hbeat : ∀ y ∈ L, It.same y x → It.wins x y := by
      intro y hy hs
      obtain ⟨hl, rfl⟩ := hone y hy hs
      have h1 : sameAt x L = true := by rw [sameAt_in hl]; simpa [sameB] using hs
      have h2 : winsAt x L = true := by
        cases hw : winsAt x L with
        | true => rfl
        | false => exact absurd ⟨h1, hw⟩ e
      unfold winsAt at h2
      rw [List.getElem?_eq_getElem hl] at h2
      simpa [winsB] using h2
    constructor
    · rintro (rfl | ⟨⟨hz, hzb⟩, hns⟩)
      · refine ⟨List.mem_cons_self, fun u hu hs hwu => ?_⟩
        rcases List.mem_cons.1 hu with rfl | hu
        · unfold It.wins at hwu; omega
        · obtain ⟨y, hy, hsy, hwy⟩ := hbest u hu (by unfold It.same at *; omega)
          have := hbeat y hy hsy
          unfold It.wins at *; omega
      · refine ⟨List.mem_cons_of_mem _ hz, fun u hu hs hwu => ?_⟩
        rcases List.mem_cons.1 hu with rfl | hu
        · exact hns hs
        · exact hzb u hu hs hwu
    · rintro ⟨hz, hzb⟩
      by_cases hzx : z = x
      · exact .inl hzx
      · right
        rcases List.mem_cons.1 hz with rfl | hz
        · exact absurd rfl hzx
        refine ⟨⟨hz, fun u hu => hzb u (List.mem_cons_of_mem _ hu)⟩, fun hs => ?_⟩
        obtain ⟨y, hy, hsy, hwy⟩ := hbest z hz hs
        have h1 := hbeat y hy hsy
        have h2 := hzb x List.mem_cons_self hs
        unfold It.wins at *; omega

theorem its_set {F : List Nd} {q : Nat} {n : Nd} : itsF (F.set (q + 1) n) = (itsF F).set q n.x := by
  unfold itsF
  cases F with
  | nil => simp
  | cons a N => simp [List.map_set]
theorem hts_set {F : List Nd} {q : Nat} {n : Nd} (hq : q + 1 < F.length) (h : n.h = (F[q + 1]'hq).h) : htsF (F.set (q + 1) n) = htsF F := by
  unfold htsF
  cases F with
  | nil => simp at hq
  | cons a N =>
    simp only [List.set_cons_succ, List.drop_succ_cons, List.drop_zero, List.getElem_cons_succ] at h ⊢
    rw [List.map_set, h]
    apply List.ext_getElem?
    intro m
    by_cases e : q = m
    · subst e
      have hq' : q < N.length := by simpa using hq
      rw [List.getElem?_set_self (by simpa using hq'), List.getElem?_map, List.getElem?_eq_getElem hq']
      rfl
    · rw [List.getElem?_set_ne e]
theorem SkOk.set_ {F : List Nd} (hF : SkOk F) {q : Nat} (hq : q + 1 < F.length) {x : It} (hs : sameAt x (itsF F) = true) (hql : lowI x (itsF F) = q) : SkOk (F.set (q + 1) ⟨(F[q + 1]'hq).b, (F[q + 1]'hq).t, (F[q + 1]'hq).h, x⟩) := by
  refine ⟨?_, fun n hn => ?_⟩
  · rw [its_set]
    have e := putL_same hs
    rw [hql] at e
    show Rising ((itsF F).set q x)
    rw [← e]
    exact rising_putL hF.up
  · rcases List.mem_or_eq_of_mem_set hn with h | rfl
    · exact hF.hts n h
    · exact hF.hts (F[q + 1]'hq) (List.getElem_mem hq)
theorem sblk_set {p : Nat} {F : List Nd} {q : Nat} (hq : q + 1 < F.length) {x : It} {b : Nat} (h : SBlk p (F.set (q + 1) ⟨(F[q + 1]'hq).b, (F[q + 1]'hq).t, (F[q + 1]'hq).h, x⟩) b) : SBlk p F b := by
  rcases h with h | ⟨n, hn, h⟩
  · exact .inl h
  · rcases List.mem_or_eq_of_mem_set hn with g | rfl
    · exact .inr ⟨n, g, h⟩
    · exact .inr ⟨_, List.getElem_mem hq, h⟩
/-- What Put makes of a list. -/
structure PutTo (w w' : World) (p : Nat) (F : List Nd) (x : It) (h : Int) (F' : List Nd) : Prop where
  at_ : SkAt w' p F'
  ok : SkOk F'
  its : itsF F' = skL x h (itsF F)
  hts : htsF F' = skH x h (itsF F) (htsF F)
  len : F'.length ≤ F.length + 1
  own : ∀ b, SBlk p F' b → SBlk p F b ∨ w.heap.size ≤ b
  sets : Sets (SBlk p F) w w'
theorem same_node {F : List Nd} {x : It} (hj : lowI x (itsF F) + 1 < F.length) : sameAt x (itsF F) = sameB (F[lowI x (itsF F) + 1]'hj).x x ∧ winsAt x (itsF F) = winsB x (F[lowI x (itsF F) + 1]'hj).x := by
  have hl : lowI x (itsF F) < (itsF F).length := by rw [its_len]; omega
  have e := itsF_get (F := F) (j := lowI x (itsF F) + 1) (by omega) hj hl
  have e2 : (itsF F)[lowI x (itsF F)]'hl = (F[lowI x (itsF F) + 1]'hj).x := e
  refine ⟨by rw [sameAt_in hl, e2], ?_⟩
  unfold winsAt
  rw [List.getElem?_eq_getElem hl, e2]
theorem skput_any (p : Nat) (F : List Nd) (x : It) (h : Int) (w : World) (hS : SkAt w p F) (hF : SkOk F) (hlen : F.length ≤ 1099511627776) :
    Calls Try.prog 28 #[.pointer (some ⟨p, 0, none⟩), x.val, .int .i64 h] w fun e w' => ∃ F', e = .returned (.tuple #[.bool (skR x h (itsF F)), .int .i64 (skE x h)]) ∧ PutTo w w' p F x h F' := by
  by_cases hok : okP x h = true
  · obtain ⟨hg, h1, h6⟩ := okP_iff.1 hok
    obtain ⟨hn, rfl⟩ : ∃ n : Nat, h = n := ⟨h.toNat, by omega⟩
    have eE : skE x (hn : Int) = 0 := if_pos hok
    have eL : skL x (hn : Int) (itsF F) = skP x (itsF F) := if_pos hok
    have eH : skH x (hn : Int) (itsF F) (htsF F) = if sameAt x (itsF F) = true then htsF F else (htsF F).take (lowI x (itsF F)) ++ hn :: (htsF F).drop (lowI x (itsF F)) := if_pos hok
    have eR : skR x (hn : Int) (itsF F) = (!sameAt x (itsF F) || winsAt x (itsF F)) := by unfold skR; rw [hok]; rfl
    have hins : ∀ (b t : Nat) (w' : World), sameAt x (itsF F) = false → w.heap.size ≤ b → w.heap.size ≤ t → SkAt w' p (insF F (lowI x (itsF F)) ⟨b, t, hn, x⟩) → Sets (SBlk p F) w w' → PutTo w w' p F x hn (insF F (lowI x (itsF F)) ⟨b, t, hn, x⟩) := by
      intro b t w' hs hb ht hA hSt
      have hF0 : 0 < F.length := hS.pos.1
      have ei := its_ins (F := F) (q := lowI x (itsF F)) (n := ⟨b, t, hn, x⟩) hF0
      have eP : skP x (itsF F) = (itsF F).take (lowI x (itsF F)) ++ x :: (itsF F).drop (lowI x (itsF F)) := by unfold skP; rw [if_neg (by simp [hs])]
      refine ⟨hA, ⟨?_, fun n hnm => ?_⟩, by rw [eL, eP, ei], ?_, by rw [ins_len]; omega, ?_, hSt⟩
      · rw [ei, ← eP]
        exact rising_skP hF.up
      · rcases ins_mem.1 hnm with rfl | hm
        · exact ⟨by show 1 ≤ hn; omega, by show hn ≤ 6; omega⟩
        · exact hF.hts n hm
      · rw [eH, if_neg (by simp [hs]), hts_ins hF0]
      · rintro c (rfl | ⟨n, hnm, e⟩)
        · exact .inl (.inl rfl)
        · rcases ins_mem.1 hnm with rfl | hm
          · right
            rcases e with rfl | rfl
            · exact hb
            · exact ht
          · exact .inl (.inr ⟨n, hm, e⟩)
    by_cases hj : lowI x (itsF F) + 1 < F.length
    · obtain ⟨es, ew⟩ := same_node hj
      cases hsb : sameB (F[lowI x (itsF F) + 1]'hj).x x with
      | true =>
        rw [hsb] at es
        refine Calls.mono (put_same p F x hn w hS hF hg (by omega) (by omega) hj hsb) ?_
        rintro e w' ⟨rfl, hss, hSt⟩
        rw [← ew]
        cases hw : winsAt x (itsF F) with
        | true =>
          refine ⟨_, by rw [eE, eR, es, hw]; rfl, hss.1 (by rw [← ew]; exact hw), hF.set_ hj es rfl, ?_, ?_, by simp, fun b hb => .inl (sblk_set hj hb), hSt⟩
          · rw [its_set, eL, skP_putL (.inr hw), putL_same es]
          · exact (hts_set (n := ⟨(F[lowI x (itsF F) + 1]'hj).b, (F[lowI x (itsF F) + 1]'hj).t, (F[lowI x (itsF F) + 1]'hj).h, x⟩) hj rfl).trans (by rw [eH, if_pos es])
        | false =>
          refine ⟨F, by rw [eE, eR, es, hw]; rfl, hss.2 (by rw [← ew]; exact hw), hF, ?_, ?_, by omega, fun b hb => .inl hb, hSt⟩
          · rw [eL, skP_keep es hw]
          · rw [eH, if_pos es]
      | false =>
        rw [hsb] at es
        refine Calls.mono (put_next p F x hn w hS hF hlen hg (by omega) (by omega) hj hsb) ?_
        rintro e w' ⟨b, t, rfl, hb, ht, hA, hSt⟩
        exact ⟨_, by rw [eE, eR, es]; rfl, hins b t w' es hb ht hA hSt⟩
    · have es : sameAt x (itsF F) = false := sameAt_out (by rw [its_len]; omega)
      refine Calls.mono (put_none p F x hn w hS hF hlen hg (by omega) (by omega) hj) ?_
      rintro e w' ⟨b, t, rfl, hb, ht, hA, hSt⟩
      exact ⟨_, by rw [eE, eR, es]; rfl, hins b t w' es hb ht hA hSt⟩
  · have hok' : ¬ (goodB x = true ∧ 1 ≤ h ∧ h ≤ 6) := fun e => hok (okP_iff.2 e)
    refine Calls.mono (put_bad p x h w hok') ?_
    rintro e w' ⟨rfl, hb⟩
    have hok2 : okP x h = false := by simpa using hok
    refine ⟨F, ?_, hS.below hb, hF, ?_, ?_, by omega, fun b hb => .inl hb, Sets.of hb⟩
    · unfold skR skE
      rw [hok2]
      rfl
    · unfold skL
      rw [hok2]
      rfl
    · unfold skH
      rw [hok2]
      rfl
theorem new_ok {w : World} {p : Nat} {H : Nd} (h : SkAt w p [H]) : SkOk [H] := ⟨Rising.nil_, fun n hn => by
  obtain ⟨_, e, _⟩ := h.pos
  simp at hn e
  subst hn
  omega⟩
end Go.Proofs.Ytoejhekmfgkklaa
