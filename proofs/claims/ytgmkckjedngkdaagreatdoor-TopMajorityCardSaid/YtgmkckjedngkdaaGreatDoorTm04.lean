/- A part of the proof that TopMajorityLaw holds: XSt. Conditions: as typed. -/
import Derived.Test.YtgmkckjedngkdaaGreatDoorTm01
set_option linter.unusedVariables false
set_option linter.unusedSimpArgs false
namespace Go.Proofs.YtgmkckjedngkdaaGreatDoor
abbrev It.lt (a b:It):Prop:=a.s < b.s ∨ (a.s=b.s∧(a.k < b.k ∨ (a.k=b.k∧a.t < b.t)))
abbrev It.same (a b:It):Prop:=a.s=b.s∧a.k=b.k∧a.t=b.t
abbrev It.wins (a b:It):Prop:=b.v < a.v ∨ (a.v=b.v∧b.x < a.x)
abbrev It.hides (t x:It):Prop:=t.k=1∧x.k=2∧t.s=x.s∧x.v≤t.v
abbrev It.good (x:It):Prop:=(0≤x.s∧x.s≤255)∧(1≤x.v∧x.v≤281474976710656)∧((x.k=1∧x.t=0∧x.x=0) ∨ (x.k=2∧x.t≤1099511627776))
theorem It.ext_ {a b:It} (h0:a.s=b.s) (h1:a.k=b.k) (h2:a.t=b.t) (h3:a.v=b.v) (h4:a.x=b.x):a=b:=by
 cases a;cases b;simp_all
theorem It.same_eq {a b:It} (h:It.same a b) (h1:¬ It.wins a b) (h2:¬ It.wins b a):a=b:=by
 obtain ⟨e0,e1,e2⟩:=h
 unfold It.wins at h1 h2
 exact It.ext_ e0 e1 e2 (by omega) (by omega)
def Rising (l:List It):Prop:=l.Pairwise It.lt
theorem Rising.nil_:Rising []:=List.Pairwise.nil
theorem rising_cons {a:It} {l:List It}:Rising (a :: l) ↔ (∀ b ∈ l,It.lt a b)∧Rising l:=List.pairwise_cons
def There (S:List It) (x:It):Prop:=x ∈ S∧(∀ y ∈ S,It.same x y→¬ It.wins y x)∧∀ t ∈ S,¬ It.hides t x
structure IsOf (S l:List It):Prop where
 up:Rising l
 mem:∀ x,x ∈ l ↔ There S x
theorem there_congr {S T:List It} (h:∀ x,x ∈ S ↔ x ∈ T) (x:It):There S x ↔ There T x:=by
 unfold There
 rw [h x]
 constructor
 ·rintro ⟨h0,h1,h2⟩
  exact ⟨h0,fun y hy=>h1 y ((h y).2 hy),fun t ht=>h2 t ((h t).2 ht)⟩
 ·rintro ⟨h0,h1,h2⟩
  exact ⟨h0,fun y hy=>h1 y ((h y).1 hy),fun t ht=>h2 t ((h t).1 ht)⟩
theorem IsOf.congr {S T l:List It} (h:∀ x,x ∈ S ↔ x ∈ T) (k:IsOf S l):IsOf T l:=⟨k.up,fun x=>(k.mem x).trans (there_congr h x)⟩
theorem best_ex:∀ (S:List It) (x:It),x ∈ S→∃ y ∈ S,It.same x y∧¬ It.wins x y∧∀ z ∈ S,It.same x z→¬ It.wins z y
 | [],_,h=>absurd h (by simp)
 | a :: S,x,h=>by
  by_cases hS:∃ u ∈ S,It.same x u
  ·obtain ⟨u,hu,hxu⟩:=hS
   obtain ⟨y,hy,hs,hw,hb⟩:=best_ex S u hu
   have hxy:It.same x y:=by unfold It.same at *;omega
   by_cases ha:It.same x a∧It.wins a y
   ·refine ⟨a,by simp,ha.1,?_,?_⟩
    ·intro hxa
     rcases List.mem_cons.1 h with e | e
     ·subst e;unfold It.wins at hxa;omega
     ·have:=hb x e (by unfold It.same at *;omega)
      obtain ⟨_,h2⟩:=ha
      unfold It.wins at *
      omega
    ·intro z hz hxz hwz
     rcases List.mem_cons.1 hz with e | e
     ·subst e;unfold It.wins at hwz;omega
     ·have:=hb z e (by unfold It.same at *;omega)
      obtain ⟨_,h2⟩:=ha
      unfold It.wins at *
      omega
   ·refine ⟨y,by simp [hy],hxy,?_,?_⟩
    ·intro hxy'
     rcases List.mem_cons.1 h with e | e
     ·subst e;exact ha ⟨by unfold It.same;omega,hxy'⟩
     ·exact hb x e (by unfold It.same at *;omega) hxy'
    ·intro z hz hxz hwz
     rcases List.mem_cons.1 hz with e | e
     ·subst e;exact ha ⟨hxz,hwz⟩
     ·exact hb z e (by unfold It.same at *;omega) hwz
  ·have hxa:x=a:=by
    rcases List.mem_cons.1 h with e | e
    ·exact e
    ·exact absurd ⟨x,e,by unfold It.same;omega⟩ hS
   subst hxa
   refine ⟨x,by simp,by unfold It.same;omega,by unfold It.wins;omega,?_⟩
   intro z hz hxz
   rcases List.mem_cons.1 hz with e | e
   ·subst e;unfold It.wins;omega
   ·exact absurd ⟨z,e,hxz⟩ hS
theorem tomb_there {S:List It} {t:It} (ht:t ∈ S) (hk:t.k=1):∃ u,There S u∧It.same t u∧¬ It.wins t u:=by
 obtain ⟨y,hy,hs,hw,hb⟩:=best_ex S t ht
 refine ⟨y,⟨hy,fun z hz hyz=>hb z hz (by unfold It.same at *;omega),fun u _ hu=>?_⟩,hs,hw⟩
 unfold It.hides at hu
 unfold It.same at hs
 omega
theorem hidden_iff {S l:List It} (h:IsOf S l) (hS:∀ y ∈ S,It.good y) (x:It):(∃ t ∈ l,It.hides t x) ↔ ∃ t ∈ S,It.hides t x:=by
 constructor
 ·rintro ⟨t,ht,hh⟩
  exact ⟨t,((h.mem t).1 ht).1,hh⟩
 ·rintro ⟨t,ht,hh⟩
  obtain ⟨u,hu,hs,hw⟩:=tomb_there ht hh.1
  refine ⟨u,(h.mem u).2 hu,?_⟩
  unfold It.hides at *
  unfold It.same at hs
  unfold It.wins at hw
  omega
theorem there_more {S:List It} (hS:∀ y ∈ S,It.good y) {x:It} (hx:It.good x) (z:It) :
 There (x :: S) z ↔ (z=x∧(∀ y ∈ S,It.same x y→¬ It.wins y x)∧∀ t ∈ S,¬ It.hides t x) ∨ (There S z∧¬ (It.same z x∧It.wins x z)∧¬ It.hides x z):=by
 unfold There
 constructor
 ·rintro ⟨h0,h1,h2⟩
  rcases List.mem_cons.1 h0 with e | e
  ·subst e
   exact .inl ⟨rfl,fun y hy=>h1 y (by simp [hy]),fun t ht=>h2 t (by simp [ht])⟩
  ·exact .inr ⟨⟨e,fun y hy=>h1 y (by simp [hy]),fun t ht=>h2 t (by simp [ht])⟩,fun hh=>h1 x (by simp) hh.1 hh.2,fun hh=>h2 x (by simp) hh⟩
 ·rintro (⟨e,h1,h2⟩ | ⟨⟨h0,h1,h2⟩,h3,h4⟩)
  ·subst e
   refine ⟨by simp,fun y hy hs=>?_,fun t ht=>?_⟩
   ·rcases List.mem_cons.1 hy with e | e
    ·subst e;unfold It.wins;omega
    ·exact h1 y e hs
   ·rcases List.mem_cons.1 ht with e | e
    ·subst e;unfold It.hides;omega
    ·exact h2 t e
  ·refine ⟨by simp [h0],fun y hy hs=>?_,fun t ht=>?_⟩
   ·rcases List.mem_cons.1 hy with e | e
    ·subst e;exact fun hw=>h3 ⟨hs,hw⟩
    ·exact h1 y e hs
   ·rcases List.mem_cons.1 ht with e | e
    ·subst e;exact h4
    ·exact h2 t e
def goodB (x:It):Bool:=decide (It.good x)
def ltB (a b:It):Bool:=decide (It.lt a b)
def sameB (a b:It):Bool:=decide (It.same a b)
def winsB (a b:It):Bool:=decide (It.wins a b)
def hidesB (t x:It):Bool:=decide (It.hides t x)
def putL (x:It):List It→List It
 | []=>[x]
 | y :: l=>if ltB y x then y :: putL x l else if ltB x y then x :: y :: l else x :: l
def addL (l:List It) (x:It):List It :=
 if goodB x=false then l else if l.any (fun t=>hidesB t x) then l else if l.any (fun y=>sameB y x && !winsB x y) then l else (putL x l).filter (fun y=>!hidesB x y)
theorem mem_putL {x:It}:∀ {l:List It},Rising l→∀ z,z ∈ putL x l ↔ z=x ∨ (z ∈ l∧¬ It.same z x)
 | [],_,z=>by simp [putL]
 | y :: l,h,z=>by
  obtain ⟨hy,hl⟩:=rising_cons.1 h
  unfold putL
  by_cases h1:It.lt y x
  ·rw [if_pos (by simp [ltB,h1]),List.mem_cons,mem_putL hl z,List.mem_cons]
   constructor
   ·rintro (e | e | ⟨e,h2⟩)
    ·subst e;exact .inr ⟨.inl rfl,by unfold It.same;unfold It.lt at h1;omega⟩
    ·exact .inl e
    ·exact .inr ⟨.inr e,h2⟩
   ·rintro (e | ⟨e | e,h2⟩)
    ·exact .inr (.inl e)
    ·exact .inl e
    ·exact .inr (.inr ⟨e,h2⟩)
  ·rw [if_neg (by simp [ltB,h1])]
   by_cases h2:It.lt x y
   ·rw [if_pos (by simp [ltB,h2]),List.mem_cons,List.mem_cons]
    constructor
    ·rintro (e | e | e)
     ·exact .inl e
     ·subst e;exact .inr ⟨.inl rfl,by unfold It.same;unfold It.lt at h2;omega⟩
     ·have:=hy z e
      exact .inr ⟨.inr e,by unfold It.same;unfold It.lt at *;omega⟩
    ·rintro (e | ⟨e | e,_⟩)
     ·exact .inl e
     ·exact .inr (.inl e)
     ·exact .inr (.inr e)
   ·rw [if_neg (by simp [ltB,h2]),List.mem_cons,List.mem_cons]
    constructor
    ·rintro (e | e)
     ·exact .inl e
     ·have:=hy z e
      exact .inr ⟨.inr e,by unfold It.same;unfold It.lt at *;omega⟩
    ·rintro (e | ⟨e | e,h3⟩)
     ·exact .inl e
     ·subst e;exact absurd (by unfold It.same;unfold It.lt at *;omega) h3
     ·exact .inr e
theorem rising_putL {x:It}:∀ {l:List It},Rising l→Rising (putL x l)
 | [],_=>by simp [putL,Rising]
 | y :: l,h=>by
  obtain ⟨hy,hl⟩:=rising_cons.1 h
  unfold putL
  by_cases h1:It.lt y x
  ·rw [if_pos (by simp [ltB,h1])]
   refine rising_cons.2 ⟨fun b hb=>?_,rising_putL hl⟩
   rcases (mem_putL hl b).1 hb with e | ⟨e,_⟩
   ·subst e;exact h1
   ·exact hy b e
  ·rw [if_neg (by simp [ltB,h1])]
   by_cases h2:It.lt x y
   ·rw [if_pos (by simp [ltB,h2])]
    refine rising_cons.2 ⟨fun b hb=>?_,h⟩
    rcases List.mem_cons.1 hb with e | e
    ·subst e;exact h2
    ·have:=hy b e;unfold It.lt at *;omega
   ·rw [if_neg (by simp [ltB,h2])]
    refine rising_cons.2 ⟨fun b hb=>?_,hl⟩
    have:=hy b hb;unfold It.lt at *;omega
theorem addL_isOf {S l:List It} (h:IsOf S l) (hS:∀ y ∈ S,It.good y) {x:It} (hx:It.good x):IsOf (x :: S) (addL l x):=by
 unfold addL
 rw [if_neg (by simp [goodB,hx])]
 by_cases h1:∃ t ∈ l,It.hides t x
 ·rw [if_pos (by obtain ⟨t,ht,hh⟩:=h1;exact List.any_eq_true.2 ⟨t,ht,by simp [hidesB,hh]⟩)]
  refine ⟨h.up,fun z=>(h.mem z).trans ?_⟩
  rw [there_more hS hx]
  obtain ⟨t,ht,hh⟩:=(hidden_iff h hS x).1 h1
  constructor
  ·intro hz
   refine .inr ⟨hz,?_,?_⟩
   ·rintro ⟨hs,hw⟩
    refine hz.2.2 t ht ?_
    unfold It.hides at *;unfold It.same at hs;unfold It.wins at hw;omega
   ·intro hz'
    unfold It.hides at *;omega
  ·rintro (⟨_,_,h4⟩ | ⟨hz,_⟩)
   ·exact absurd hh (h4 t ht)
   ·exact hz
 ·have h1':∀ t ∈ S,¬ It.hides t x:=fun t ht hh=>h1 ((hidden_iff h hS x).2 ⟨t,ht,hh⟩)
  rw [if_neg (by
   intro hh
   obtain ⟨t,ht,h2⟩:=List.any_eq_true.1 hh
   exact h1 ⟨t,ht,by simpa [hidesB] using h2⟩)]
  by_cases h2:∃ y ∈ l,It.same y x∧¬ It.wins x y
  ·rw [if_pos (by obtain ⟨y,hy,h3,h4⟩:=h2;exact List.any_eq_true.2 ⟨y,hy,by simp [sameB,winsB,h3,h4]⟩)]
   refine ⟨h.up,fun z=>(h.mem z).trans ?_⟩
   rw [there_more hS hx]
   obtain ⟨y,hy,hs,hw⟩:=h2
   have hy':=(h.mem y).1 hy
   constructor
   ·intro hz
    refine .inr ⟨hz,?_,?_⟩
    ·rintro ⟨hs2,hw2⟩
     have hzy:z=y:=It.same_eq (by unfold It.same at *;omega) (fun hh=>hy'.2.1 z hz.1 (by unfold It.same at *;omega) hh) (fun hh=>hz.2.1 y hy'.1 (by unfold It.same at *;omega) hh)
     subst hzy
     exact hw hw2
    ·intro hh
     refine hz.2.2 y hy'.1 ?_
     unfold It.hides at *;unfold It.same at hs;unfold It.wins at hw;omega
   ·rintro (⟨e,h5,_⟩ | ⟨hz,_⟩)
    ·subst e
     have hyx:y=z:=It.same_eq hs (h5 y hy'.1 (by unfold It.same at *;omega)) hw
     subst hyx
     exact hy'
    ·exact hz
  ·rw [if_neg (by
    intro hh
    obtain ⟨y,hy,h3⟩:=List.any_eq_true.1 hh
    simp only [sameB,winsB,Bool.and_eq_true,Bool.not_eq_true',decide_eq_true_eq,decide_eq_false_iff_not] at h3
    exact h2 ⟨y,hy,h3⟩)]
   refine ⟨List.Pairwise.filter _ (rising_putL h.up),fun z=>?_⟩
   rw [List.mem_filter,mem_putL h.up,there_more hS hx,h.mem z]
   constructor
   ·rintro ⟨e | ⟨hz,h4⟩,h5⟩
    ·subst e
     refine .inl ⟨rfl,fun y hy hs hw=>?_,h1'⟩
     obtain ⟨u,hu,hsu,hwu,hbu⟩:=best_ex S y hy
     have hul:u ∈ l:=by
      refine (h.mem u).2 ⟨hu,fun w hw' hs'=>hbu w hw' (by unfold It.same at *;omega),fun t ht hh=>?_⟩
      refine h1' t ht ?_
      unfold It.hides at *;unfold It.same at *;unfold It.wins at *;omega
     refine h2 ⟨u,hul,by unfold It.same at *;omega,?_⟩
     unfold It.wins at *;omega
    ·refine .inr ⟨hz,fun hh=>h4 hh.1,?_⟩
     simp only [hidesB,Bool.not_eq_true',decide_eq_false_iff_not] at h5
     exact h5
   ·rintro (⟨e,_,_⟩ | ⟨hz,h4,h5⟩)
    ·subst e
     refine ⟨.inl rfl,?_⟩
     have:¬ It.hides z z:=by unfold It.hides;omega
     simp [hidesB,this]
    ·refine ⟨.inr ⟨hz,fun hs=>?_⟩,by simp [hidesB,h5]⟩
     exact h2 ⟨z,(h.mem z).2 hz,hs,fun hw=>h4 ⟨hs,hw⟩⟩
theorem addL_bad {l:List It} {x:It} (hx:¬ It.good x):addL l x=l:=by
 unfold addL
 rw [if_pos (by simp [goodB,hx])]
theorem IsOf.nil_:IsOf [] []:=⟨Rising.nil_,fun x=>by simp [There]⟩
def IsState (l:List It):Prop:=(∀ x ∈ l,It.good x)∧Rising l∧∀ t ∈ l,∀ x ∈ l,¬ It.hides t x
theorem IsState.isOf {l:List It} (h:IsState l):IsOf l l:=by
 refine ⟨h.2.1,fun x=>⟨fun hx=>⟨hx,fun y hy hs hw=>?_,fun t ht=>h.2.2 t ht x hx⟩,fun hx=>hx.1⟩⟩
 have hp:=h.2.1
 have key:∀ {m:List It},Rising m→∀ a ∈ m,∀ b ∈ m,It.same a b→a=b:=by
  intro m
  induction m with
  | nil=>intro _ a ha;simp at ha
  | cons c m ih =>
   intro hm a ha b hb hab
   obtain ⟨hc,hm'⟩:=rising_cons.1 hm
   rcases List.mem_cons.1 ha with e | e <;> rcases List.mem_cons.1 hb with e' | e'
   ·rw [e,e']
   ·subst e;have:=hc b e';unfold It.lt at this;unfold It.same at hab;omega
   ·subst e';have:=hc a e;unfold It.lt at this;unfold It.same at hab;omega
   ·exact ih hm' a e b e' hab
 have:=key hp x hx y hy hs
 subst this
 unfold It.wins at hw
 omega
theorem IsOf.state {S l:List It} (h:IsOf S l) (hS:∀ y ∈ S,It.good y):IsState l :=
 ⟨fun x hx=>hS x ((h.mem x).1 hx).1,h.up,fun t ht x hx=>((h.mem x).1 hx).2.2 t ((h.mem t).1 ht).1⟩
def ofL (l:List It):List It:=l.foldl addL []
end Go.Proofs.YtgmkckjedngkdaaGreatDoor
