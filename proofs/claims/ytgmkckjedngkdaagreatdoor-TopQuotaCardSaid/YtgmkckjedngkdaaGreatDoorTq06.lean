/- A part of the proof that TopQuotaLaw holds: XStRef. Conditions: as typed. -/
import Derived.Test.YtgmkckjedngkdaaGreatDoorTq03
set_option linter.unusedVariables false
set_option linter.unusedSimpArgs false
namespace Go.Proofs.YtgmkckjedngkdaaGreatDoor
def refRest (x:It):Bool→List It→Option (List It)
 | put,[]=>some (if put then [] else [x])
 | put,y :: l =>
   if hidesB y x then none
   else if sameB x y then (if winsB x y then refRest x put l else none)
   else (refRest x (put || ltB x y) l).map fun r=>(if !put && ltB x y then [x] else []) ++ ((if hidesB x y then [] else [y]) ++ r)
def refAdd (l:List It) (x:It):List It:=(refRest x false l).getD l
theorem ltB_true {a b:It} (h:It.lt a b):ltB a b=true:=decide_eq_true h
theorem ltB_false {a b:It} (h:¬ It.lt a b):ltB a b=false:=decide_eq_false h
theorem sameB_true {a b:It} (h:It.same a b):sameB a b=true:=decide_eq_true h
theorem sameB_false {a b:It} (h:¬ It.same a b):sameB a b=false:=decide_eq_false h
theorem winsB_true {a b:It} (h:It.wins a b):winsB a b=true:=decide_eq_true h
theorem winsB_false {a b:It} (h:¬ It.wins a b):winsB a b=false:=decide_eq_false h
theorem hidesB_true {a b:It} (h:It.hides a b):hidesB a b=true:=decide_eq_true h
theorem hidesB_false {a b:It} (h:¬ It.hides a b):hidesB a b=false:=decide_eq_false h
theorem goodB_true {a:It} (h:It.good a):goodB a=true:=decide_eq_true h
theorem hides_self (x:It):hidesB x x=false:=hidesB_false (by unfold It.hides;omega)
theorem refRest_late (x:It):∀ l:List It,(∀ y ∈ l,It.lt x y)→(∀ y ∈ l,¬ It.hides y x)→refRest x true l=some (l.filter fun y=>!hidesB x y)
 | [],_,_=>rfl
 | y :: l,h,hh=>by
   have h1:=h y (by simp)
   have ih:=refRest_late x l (fun z hz=>h z (by simp [hz])) (fun z hz=>hh z (by simp [hz]))
   unfold refRest
   rw [hidesB_false (hh y (by simp)),sameB_false (by unfold It.same;unfold It.lt at h1;omega)]
   simp only [Bool.false_eq_true,if_false,Bool.true_or,ih,Bool.not_true,Bool.false_and,Option.map_some,List.nil_append,List.filter_cons]
   cases hidesB x y <;> simp
theorem refRest_next (x:It):∀ l:List It,(∀ y ∈ l,It.lt x y)→(∀ y ∈ l,¬ It.hides y x)→refRest x false l=some (x :: l.filter fun y=>!hidesB x y)
 | [],_,_=>rfl
 | y :: l,h,hh=>by
   have h1:=h y (by simp)
   have ih:=refRest_late x l (fun z hz=>h z (by simp [hz])) (fun z hz=>hh z (by simp [hz]))
   unfold refRest
   rw [hidesB_false (hh y (by simp)),sameB_false (by unfold It.same;unfold It.lt at h1;omega),ltB_true h1]
   simp only [Bool.false_eq_true,if_false,Bool.or_true,ih,Bool.not_false,Bool.and_true,if_true,Option.map_some,List.filter_cons]
   cases hidesB x y <;> simp
theorem refRest_none (x:It):∀ (l:List It) (put:Bool),(∃ y ∈ l,It.hides y x ∨ (It.same y x∧¬ It.wins x y))→refRest x put l=none
 | [],_,h=>by obtain ⟨y,hy,_⟩:=h;simp at hy
 | y :: l,put,h=>by
   unfold refRest
   by_cases h1:It.hides y x
   · rw [hidesB_true h1];rfl
   · rw [hidesB_false h1]
     simp only [Bool.false_eq_true,if_false]
     by_cases h2:It.same x y
     · rw [sameB_true h2]
       by_cases h3:It.wins x y
       · rw [winsB_true h3]
         simp only [if_true]
         refine refRest_none x l put ?_
         obtain ⟨z,hz,hzx⟩:=h
         rcases List.mem_cons.1 hz with e | e
         · subst e
           rcases hzx with hzx | hzx
           · exact absurd hzx h1
           · exact absurd h3 hzx.2
         · exact ⟨z,e,hzx⟩
       · rw [winsB_false h3];simp
     · rw [sameB_false h2]
       simp only [Bool.false_eq_true,if_false]
       have:refRest x (put || ltB x y) l=none:=by
         refine refRest_none x l _ ?_
         obtain ⟨z,hz,hzx⟩:=h
         rcases List.mem_cons.1 hz with e | e
         · subst e
           rcases hzx with hzx | hzx
           · exact absurd hzx h1
           · exact absurd (by unfold It.same at *;omega) h2
         · exact ⟨z,e,hzx⟩
       rw [this];rfl
theorem refRest_in (x:It):∀ l:List It,Rising l→(∀ y ∈ l,¬ It.hides y x)→(∀ y ∈ l,It.same y x→It.wins x y)→refRest x false l=some ((putL x l).filter fun y=>!hidesB x y)
 | [],_,_,_=>by simp [refRest,putL,hides_self]
 | y :: l,h,hh,hw=>by
   obtain ⟨hy,hl⟩:=rising_cons.1 h
   have hhl:∀ z ∈ l,¬ It.hides z x:=fun z hz=>hh z (by simp [hz])
   unfold refRest putL
   rw [hidesB_false (hh y (by simp))]
   simp only [Bool.false_eq_true,if_false]
   by_cases h1:It.same x y
   · rw [sameB_true h1,winsB_true (hw y (by simp) (by unfold It.same at *;omega)),ltB_false (a:=y) (by unfold It.lt;unfold It.same at h1;omega),ltB_false (a:=x) (by unfold It.lt;unfold It.same at h1;omega)]
     simp only [if_true,Bool.false_eq_true,if_false]
     rw [refRest_next x l (fun z hz=>by have:=hy z hz;unfold It.lt at *;unfold It.same at h1;omega) hhl]
     simp [List.filter_cons,hides_self]
   · rw [sameB_false h1]
     simp only [Bool.false_eq_true,if_false]
     by_cases h2:It.lt x y
     · rw [ltB_true h2,ltB_false (a:=y) (by unfold It.lt at *;omega)]
       simp only [Bool.or_true,Bool.not_false,Bool.and_true,if_true,Bool.false_eq_true,if_false]
       rw [refRest_late x l (fun z hz=>by have:=hy z hz;unfold It.lt at *;omega) hhl]
       simp only [Option.map_some,List.filter_cons,hides_self,Bool.not_false,if_true]
       cases hidesB x y <;> simp
     · rw [ltB_false h2,ltB_true (a:=y) (by unfold It.lt at *;unfold It.same at h1;omega)]
       simp only [Bool.or_false,Bool.not_false,Bool.and_false,if_true,Bool.false_eq_true,if_false]
       rw [refRest_in x l hl hhl (fun z hz=>hw z (by simp [hz]))]
       simp only [Option.map_some,List.filter_cons,List.nil_append]
       cases hidesB x y <;> simp
theorem refAdd_eq {l:List It} (h:Rising l) {x:It} (hx:It.good x):refAdd l x=addL l x:=by
 unfold refAdd addL
 rw [goodB_true hx]
 simp only [Bool.true_eq_false,if_false]
 by_cases h1:∃ t ∈ l,It.hides t x
 · rw [if_pos (by obtain ⟨t,ht,hh⟩:=h1;exact List.any_eq_true.2 ⟨t,ht,hidesB_true hh⟩),refRest_none x l false (by obtain ⟨t,ht,hh⟩:=h1;exact ⟨t,ht,.inl hh⟩)]
   rfl
 · rw [if_neg (by intro hh;obtain ⟨t,ht,h2⟩:=List.any_eq_true.1 hh;exact h1 ⟨t,ht,by simpa [hidesB] using h2⟩)]
   by_cases h2:∃ y ∈ l,It.same y x∧¬ It.wins x y
   · rw [if_pos (by obtain ⟨y,hy,h3,h4⟩:=h2;exact List.any_eq_true.2 ⟨y,hy,by rw [sameB_true h3,winsB_false h4];rfl⟩),refRest_none x l false (by obtain ⟨y,hy,h3,h4⟩:=h2;exact ⟨y,hy,.inr ⟨h3,h4⟩⟩)]
     rfl
   · rw [if_neg (by
       intro hh
       obtain ⟨y,hy,h3⟩:=List.any_eq_true.1 hh
       simp only [sameB,winsB,Bool.and_eq_true,Bool.not_eq_true',decide_eq_true_eq,decide_eq_false_iff_not] at h3
       exact h2 ⟨y,hy,h3⟩),refRest_in x l h (fun y hy hh=>h1 ⟨y,hy,hh⟩) (fun y hy hs=>by
       by_cases hw:It.wins x y
       · exact hw
       · exact absurd ⟨y,hy,hs,hw⟩ h2)]
     rfl
def lowI (x:It) (l:List It):Nat:=(l.takeWhile fun y=>ltB y x).length
def sameAt (x:It) (l:List It):Bool:=match l[lowI x l]? with
 | some y=>sameB y x
 | none=>false
theorem low_le (x:It) (l:List It):lowI x l≤l.length:=by
 unfold lowI
 exact (List.takeWhile_sublist _).length_le
theorem low_cons (x y:It) (l:List It):lowI x (y :: l)=if ltB y x then lowI x l+1 else 0:=by
 unfold lowI
 rw [List.takeWhile_cons]
 cases ltB y x <;> simp
theorem low_lt (x:It):∀ (l:List It) (j:Nat) (hj:j < l.length),j < lowI x l→ltB l[j] x=true
 | y :: l,0,_,h=>by
   rw [low_cons] at h
   split at h
   · simpa
   · omega
 | y :: l,j+1,hj,h=>by
   rw [low_cons] at h
   split at h
   · exact low_lt x l j (by simpa using hj) (by omega)
   · omega
theorem low_at (x:It):∀ (l:List It) (h:lowI x l < l.length),ltB l[lowI x l] x=false
 | y :: l,h=>by
   have e:=low_cons x y l
   cases hy:ltB y x
   · rw [hy] at e
     simp only [Bool.false_eq_true,if_false] at e
     have:(y :: l)[lowI x (y :: l)]=y:=by simp only [e];rfl
     rw [this];exact hy
   · rw [hy] at e
     simp only [if_true] at e
     have h':lowI x l < l.length:=by rw [e] at h;simpa using h
     have:(y :: l)[lowI x (y :: l)]=l[lowI x l]:=by simp only [e];rfl
     rw [this];exact low_at x l h'
theorem low_is {x:It} {l:List It} {i:Nat} (hi:i≤l.length) (h1:∀ j (hj:j < l.length),j < i→ltB l[j] x=true) (h2:∀ h:i < l.length,ltB l[i] x=false):lowI x l=i:=by
 rcases Nat.lt_trichotomy (lowI x l) i with h | h | h
 · have a:=h1 (lowI x l) (by omega) h
   have b:=low_at x l (by omega)
   rw [a] at b;cases b
 · exact h
 · have a:=low_lt x l i (by have:=low_le x l;omega) h
   have b:=h2 (by have:=low_le x l;omega)
   rw [a] at b;cases b
theorem rising_get {l:List It} (h:Rising l) {i j:Nat} (hij:i < j) (hj:j < l.length):It.lt (l[i]'(by omega)) l[j]:=(List.pairwise_iff_getElem.1 h) i j (by omega) hj hij
theorem low_ge {x:It} {l:List It} (h:Rising l) {j:Nat} (hj:j < l.length) (hl:lowI x l≤j):ltB l[j] x=false:=by
 have a:=low_at x l (by omega)
 rcases Nat.lt_or_ge (lowI x l) j with hlt | hge
 · have b:=rising_get h hlt hj
   simp only [ltB,decide_eq_false_iff_not] at a ⊢
   unfold It.lt at *;omega
 · have e:lowI x l=j:=by omega
   simp only [e] at a;exact a
theorem sameAt_true {x:It} {l:List It} (h:sameAt x l=true):∃ hl:lowI x l < l.length,sameB l[lowI x l] x=true:=by
 unfold sameAt at h
 cases e:l[lowI x l]? with
 | none=>rw [e] at h;cases h
 | some y =>
   rw [e] at h
   obtain ⟨hl,he⟩:=List.getElem?_eq_some_iff.1 e
   exact ⟨hl,by rw [he];exact h⟩
theorem sameAt_in {x:It} {l:List It} (hl:lowI x l < l.length):sameAt x l=sameB l[lowI x l] x:=by
 unfold sameAt
 rw [List.getElem?_eq_getElem hl]
theorem sameAt_out {x:It} {l:List It} (hl:l.length≤lowI x l):sameAt x l=false:=by
 unfold sameAt
 rw [List.getElem?_eq_none hl]
theorem sameAt_mem {x:It} {l:List It} (h:Rising l) {y:It} (hy:y ∈ l) (hs:It.same y x):∃ hl:lowI x l < l.length,l[lowI x l]=y:=by
 obtain ⟨j,hj,rfl⟩:=List.getElem_of_mem hy
 have e:lowI x l=j:=by
   refine low_is (by omega) (fun i hi hij=>?_) (fun _=>?_)
   · have:=rising_get h hij hj
     exact ltB_true (by unfold It.lt at *;unfold It.same at hs;omega)
   · exact ltB_false (by unfold It.lt;unfold It.same at hs;omega)
 refine ⟨by omega,?_⟩
 simp only [e]
theorem putL_same {x:It}:∀ {l:List It},sameAt x l=true→putL x l=l.set (lowI x l) x
 | [],h=>by simp [sameAt] at h
 | y :: l,h=>by
   unfold putL
   cases hy:ltB y x
   · have e:lowI x (y :: l)=0:=by rw [low_cons,hy];rfl
     have hs:sameB y x=true:=by simpa [sameAt,e] using h
     have hs':It.same y x:=by simpa only [sameB,decide_eq_true_eq] using hs
     rw [e,ltB_false (by unfold It.lt;unfold It.same at hs';omega)]
     simp
   · have e:lowI x (y :: l)=lowI x l+1:=by rw [low_cons,hy];rfl
     have hs:sameAt x l=true:=by simpa [sameAt,e] using h
     rw [e,putL_same hs]
     simp
theorem putL_else {x:It}:∀ {l:List It},sameAt x l=false→putL x l=l.take (lowI x l) ++ x :: l.drop (lowI x l)
 | [],_=>by simp [putL,lowI]
 | y :: l,h=>by
   unfold putL
   cases hy:ltB y x
   · have e:lowI x (y :: l)=0:=by rw [low_cons,hy];rfl
     have hs:sameB y x=false:=by simpa [sameAt,e] using h
     have hs':¬ It.same y x:=by simpa only [sameB,decide_eq_false_iff_not] using hs
     have hy':¬ It.lt y x:=by simpa only [ltB,decide_eq_false_iff_not] using hy
     rw [e,ltB_true (a:=x) (by unfold It.lt at *;unfold It.same at hs';omega)]
     simp
   · have e:lowI x (y :: l)=lowI x l+1:=by rw [low_cons,hy];rfl
     have hs:sameAt x l=false:=by simpa [sameAt,e] using h
     rw [e,putL_else hs]
     simp
def tombOf (s:Int):It:=⟨s,1,0,0,0⟩
def hidB (l:List It) (x:It):Bool:=l.any fun t=>hidesB t x
theorem hid_tomb {l:List It} (h:Rising l) (hg:∀ y ∈ l,It.good y) (x:It):hidB l x=(sameAt (tombOf x.s) l && (match l[lowI (tombOf x.s) l]? with | some t=>hidesB t x | none=>false)):=by
 unfold hidB
 by_cases h1:∃ t ∈ l,It.hides t x
 · obtain ⟨t,ht,hh⟩:=h1
   have hs:It.same t (tombOf x.s):=by
     have:=hg t ht
     unfold It.hides at hh
     unfold It.good at this
     unfold It.same tombOf
     simp only
     omega
   obtain ⟨hl,e⟩:=sameAt_mem h ht hs
   have ea:(l.any fun t=>hidesB t x)=true:=List.any_eq_true.2 ⟨t,ht,hidesB_true hh⟩
   rw [ea,sameAt_in hl,List.getElem?_eq_getElem hl]
   simp only [e]
   rw [sameB_true hs,hidesB_true hh];rfl
 · have e:(l.any fun t=>hidesB t x)=false:=by
     rw [Bool.eq_false_iff]
     intro hh
     obtain ⟨t,ht,h2⟩:=List.any_eq_true.1 hh
     exact h1 ⟨t,ht,by simpa [hidesB] using h2⟩
   rw [e]
   cases e2:l[lowI (tombOf x.s) l]? with
   | none=>simp
   | some t =>
     have ht:t ∈ l:=List.mem_of_getElem? e2
     simp [hidesB_false (fun hh=>h1 ⟨t,ht,hh⟩)]
theorem addL_hid {l:List It} {x:It} (hx:It.good x) (h:hidB l x=true):addL l x=l:=by
 unfold addL
 unfold hidB at h
 rw [goodB_true hx,if_neg (by simp),if_pos h]
theorem addL_beaten {l:List It} {x:It} (hr:Rising l) (hx:It.good x) (h:hidB l x=false) (hs:sameAt x l=true) (hl:lowI x l < l.length) (hw:winsB x l[lowI x l]=false):addL l x=l:=by
 unfold addL
 rw [goodB_true hx,if_neg (by simp)]
 unfold hidB at h
 rw [h,if_neg (by simp),if_pos]
 refine List.any_eq_true.2 ⟨l[lowI x l],List.getElem_mem hl,?_⟩
 rw [← sameAt_in hl,hs,hw];rfl
theorem addL_put {l:List It} {x:It} (hr:Rising l) (hx:It.good x) (h:hidB l x=false) (hw:sameAt x l=true→∀ hl:lowI x l < l.length,winsB x l[lowI x l]=true):addL l x=(putL x l).filter fun y=>!hidesB x y:=by
 unfold addL
 rw [goodB_true hx,if_neg (by simp)]
 unfold hidB at h
 rw [h,if_neg (by simp),if_neg]
 intro hh
 obtain ⟨y,hy,h3⟩:=List.any_eq_true.1 hh
 simp only [Bool.and_eq_true,Bool.not_eq_true'] at h3
 have hs:It.same y x:=by simpa only [sameB,decide_eq_true_eq] using h3.1
 obtain ⟨hl,e⟩:=sameAt_mem hr hy hs
 have:=hw (by rw [sameAt_in hl,e];exact h3.1) hl
 simp only [e] at this
 rw [h3.2] at this;cases this
theorem addL_store {l:List It} {x:It} (hr:Rising l) (hx:It.good x) (h:hidB l x=false) (hs:sameAt x l=true) (hl:lowI x l < l.length) (hw:winsB x l[lowI x l]=true):addL l x=(l.set (lowI x l) x).filter fun y=>!hidesB x y:=by
 rw [addL_put hr hx h (fun _ _=>hw),putL_same hs]
theorem addL_insert {l:List It} {x:It} (hr:Rising l) (hx:It.good x) (h:hidB l x=false) (hs:sameAt x l=false):addL l x=(l.take (lowI x l) ++ x :: l.drop (lowI x l)).filter fun y=>!hidesB x y:=by
 rw [addL_put hr hx h (fun hh=>by rw [hs] at hh;cases hh),putL_else hs]
theorem addL_len (l:List It) (x:It):(addL l x).length≤l.length+1:=by
 have hp:∀ l:List It,(putL x l).length≤l.length+1:=by
   intro l
   induction l with
   | nil=>simp [putL]
   | cons y l ih =>
     unfold putL
     split
     · simp only [List.length_cons];omega
     · split <;> simp
 unfold addL
 split
 · omega
 · split
   · omega
   · split
     · omega
     · exact Nat.le_trans (List.length_filter_le _ _) (hp l)
theorem addL_state {l:List It} (h:IsState l) (x:It):IsState (addL l x):=by
 by_cases hx:It.good x
 · exact (addL_isOf h.isOf h.1 hx).state (fun y hy=>by rcases List.mem_cons.1 hy with e | e;(subst e;exact hx);exact h.1 y e)
 · rw [addL_bad hx];exact h
theorem IsState.nil_:IsState []:=⟨by simp,Rising.nil_,by simp⟩
theorem foldl_state:∀ (M:List It) {l:List It},IsState l→IsState (M.foldl addL l)
 | [],_,h=>h
 | x :: M,_,h=>foldl_state M (addL_state h x)
theorem ofL_state (l:List It):IsState (ofL l):=foldl_state l IsState.nil_
theorem foldl_len:∀ (M:List It) (l:List It),(M.foldl addL l).length≤l.length+M.length
 | [],l=>by simp
 | x :: M,l=>by
   have h1:=foldl_len M (addL l x)
   have h2:=addL_len l x
   simp only [List.foldl_cons,List.length_cons] at *
   omega
theorem ofL_len (l:List It):(ofL l).length≤l.length:=by have:=foldl_len l [];simpa [ofL] using this
theorem IsState.take {l:List It} (h:IsState l) (k:Nat):IsState (l.take k) :=
 ⟨fun x hx=>h.1 x (List.mem_of_mem_take hx),List.Pairwise.sublist (List.take_sublist k l) h.2.1,fun t ht x hx=>h.2.2 t (List.mem_of_mem_take ht) x (List.mem_of_mem_take hx)⟩
theorem isState_snoc {l:List It} {k:Nat} (hk:k < l.length):IsState (l.take (k+1)) ↔ IsState (l.take k)∧It.good l[k]∧(∀ h:0 < k,It.lt (l[k - 1]'(by omega)) l[k])∧∀ t ∈ l.take k,¬ It.hides t l[k]:=by
 rw [List.take_succ_eq_append_getElem hk]
 constructor
 · rintro ⟨hg,hr,hh⟩
   have hr':=List.pairwise_append.1 hr
   refine ⟨⟨fun x hx=>hg x (List.mem_append_left _ hx),hr'.1,fun t ht x hx=>hh t (List.mem_append_left _ ht) x (List.mem_append_left _ hx)⟩,hg _ (List.mem_append_right _ (List.mem_singleton.2 rfl)),fun h0=>?_,fun t ht=>hh t (List.mem_append_left _ ht) _ (List.mem_append_right _ (List.mem_singleton.2 rfl))⟩
   refine hr'.2.2 _ ?_ _ (by simp)
   exact List.mem_take_iff_getElem.2 ⟨k - 1,by omega,rfl⟩
 · rintro ⟨⟨hg,hr,hh⟩,hx,hlt,hhx⟩
   have hall:∀ a ∈ l.take k,It.lt a l[k]:=by
     intro a ha
     obtain ⟨j,hj,rfl⟩:=List.getElem_of_mem ha
     have hj':j < k:=by simp at hj;omega
     have h0:=hlt (by omega)
     rw [List.getElem_take]
     by_cases e:j=k - 1
     · subst e;exact h0
     · have h2:=rising_get hr (i:=j) (j:=k - 1) (by omega) (by simp;omega)
       rw [List.getElem_take,List.getElem_take] at h2
       unfold It.lt at *;omega
   refine ⟨fun x hx'=>?_,List.pairwise_append.2 ⟨hr,by simp,fun a ha b hb=>?_⟩,fun t ht x hx'=>?_⟩
   · rcases List.mem_append.1 hx' with h | h
     · exact hg x h
     · rw [List.mem_singleton] at h;subst h;exact hx
   · rw [List.mem_singleton] at hb;subst hb;exact hall a ha
   · rcases List.mem_append.1 ht with h | h <;> rcases List.mem_append.1 hx' with h' | h'
     · exact hh t h x h'
     · rw [List.mem_singleton] at h';subst h';exact hhx t h
     · rw [List.mem_singleton] at h;subst h
       have:=hall x h'
       unfold It.hides;unfold It.lt at this;omega
     · rw [List.mem_singleton] at h h';subst h;subst h'
       unfold It.hides;omega
open Classical in
noncomputable def stateB (l:List It):Bool:=decide (IsState l)
theorem stateB_true {l:List It} (h:IsState l):stateB l=true:=by unfold stateB;simp [h]
theorem stateB_false {l:List It} (h:¬ IsState l):stateB l=false:=by unfold stateB;simp [h]
theorem stateB_iff {l:List It}:stateB l=true ↔ IsState l:=by unfold stateB;simp
noncomputable def joinL (a b:List It):List It:=b.foldl addL (if stateB a then a else ofL a)
theorem joinL_nil (l:List It):joinL [] l=ofL l:=by unfold joinL;rw [stateB_true IsState.nil_];rfl
theorem joinL_state (a b:List It):IsState (joinL a b):=by
 unfold joinL
 split
 · exact foldl_state b (stateB_iff.1 (by assumption))
 · exact foldl_state b (ofL_state a)
theorem joinL_len (a b:List It):(joinL a b).length≤a.length+b.length:=by
 unfold joinL
 split
 · exact foldl_len b a
 · have:=foldl_len b (ofL a);have:=ofL_len a;omega
theorem joinL_of {a b:List It} (h:IsState a):joinL a b=b.foldl addL a:=by unfold joinL;rw [stateB_true h];rfl
end Go.Proofs.YtgmkckjedngkdaaGreatDoor
