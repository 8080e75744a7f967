/- A part of the proof that TopMajorityLaw holds: XStRef, XSl. Conditions: as typed. -/
import Derived.Test.YtgmkckjedngkdaaGreatDoorTm02
import Derived.Test.YtgmkckjedngkdaaGreatDoorTm04
import Derived.Deep.DeepCutAuto
import Derived.Deep.CutBlock
import Derived.BigRegion
set_option linter.unusedVariables false
set_option linter.unusedSimpArgs false
namespace Go.Proofs.YtgmkckjedngkdaaGreatDoor
theorem ltB_true {a b:It} (h:It.lt a b):ltB a b=true:=decide_eq_true h
theorem ltB_false {a b:It} (h:¬ It.lt a b):ltB a b=false:=decide_eq_false h
theorem sameB_true {a b:It} (h:It.same a b):sameB a b=true:=decide_eq_true h
theorem winsB_false {a b:It} (h:¬ It.wins a b):winsB a b=false:=decide_eq_false h
theorem hidesB_true {a b:It} (h:It.hides a b):hidesB a b=true:=decide_eq_true h
theorem hidesB_false {a b:It} (h:¬ It.hides a b):hidesB a b=false:=decide_eq_false h
theorem goodB_true {a:It} (h:It.good a):goodB a=true:=decide_eq_true h
theorem hides_self (x:It):hidesB x x=false:=hidesB_false (by unfold It.hides;omega)
def lowI (x:It) (l:List It):Nat:=(l.takeWhile fun y=>ltB y x).length
def sameAt (x:It) (l:List It):Bool:=match l[lowI x l]? with
 | some y=>sameB y x
 | none=>false
theorem low_le (x:It) (l:List It):lowI x l≤l.length:=by
 unfold lowI
 exact (List.takeWhile_sublist _).length_le
theorem low_cons (x y:It) (l:List It):lowI x (y :: l)=if ltB y x then lowI x l+1 else 0:=by
 unfold lowI
 rw [List.takeWhile_cons]
 cases ltB y x <;> simp
theorem low_lt (x:It):∀ (l:List It) (j:Nat) (hj:j < l.length),j < lowI x l→ltB l[j] x=true
 | y :: l,0,_,h=>by
  rw [low_cons] at h
  split at h
  ·simpa
  ·omega
 | y :: l,j+1,hj,h=>by
  rw [low_cons] at h
  split at h
  ·exact low_lt x l j (by simpa using hj) (by omega)
  ·omega
theorem low_at (x:It):∀ (l:List It) (h:lowI x l < l.length),ltB l[lowI x l] x=false
 | y :: l,h=>by
  have e:=low_cons x y l
  cases hy:ltB y x
  ·rw [hy] at e
   simp only [Bool.false_eq_true,if_false] at e
   have:(y :: l)[lowI x (y :: l)]=y:=by simp only [e];rfl
   rw [this];exact hy
  ·rw [hy] at e
   simp only [if_true] at e
   have h':lowI x l < l.length:=by rw [e] at h;simpa using h
   have:(y :: l)[lowI x (y :: l)]=l[lowI x l]:=by simp only [e];rfl
   rw [this];exact low_at x l h'
theorem low_is {x:It} {l:List It} {i:Nat} (hi:i≤l.length) (h1:∀ j (hj:j < l.length),j < i→ltB l[j] x=true) (h2:∀ h:i < l.length,ltB l[i] x=false):lowI x l=i:=by
 rcases Nat.lt_trichotomy (lowI x l) i with h | h | h
 ·have a:=h1 (lowI x l) (by omega) h
  have b:=low_at x l (by omega)
  rw [a] at b;cases b
 ·exact h
 ·have a:=low_lt x l i (by have:=low_le x l;omega) h
  have b:=h2 (by have:=low_le x l;omega)
  rw [a] at b;cases b
theorem rising_get {l:List It} (h:Rising l) {i j:Nat} (hij:i < j) (hj:j < l.length):It.lt (l[i]'(by omega)) l[j]:=(List.pairwise_iff_getElem.1 h) i j (by omega) hj hij
theorem low_ge {x:It} {l:List It} (h:Rising l) {j:Nat} (hj:j < l.length) (hl:lowI x l≤j):ltB l[j] x=false:=by
 have a:=low_at x l (by omega)
 rcases Nat.lt_or_ge (lowI x l) j with hlt | hge
 ·have b:=rising_get h hlt hj
  simp only [ltB,decide_eq_false_iff_not] at a ⊢
  unfold It.lt at *;omega
 ·have e:lowI x l=j:=by omega
  simp only [e] at a;exact a
theorem sameAt_true {x:It} {l:List It} (h:sameAt x l=true):∃ hl:lowI x l < l.length,sameB l[lowI x l] x=true:=by
 unfold sameAt at h
 cases e:l[lowI x l]? with
 | none=>rw [e] at h;cases h
 | some y =>
  rw [e] at h
  obtain ⟨hl,he⟩:=List.getElem?_eq_some_iff.1 e
  exact ⟨hl,by rw [he];exact h⟩
theorem sameAt_in {x:It} {l:List It} (hl:lowI x l < l.length):sameAt x l=sameB l[lowI x l] x:=by
 unfold sameAt
 rw [List.getElem?_eq_getElem hl]
theorem sameAt_out {x:It} {l:List It} (hl:l.length≤lowI x l):sameAt x l=false:=by
 unfold sameAt
 rw [List.getElem?_eq_none hl]
theorem sameAt_mem {x:It} {l:List It} (h:Rising l) {y:It} (hy:y ∈ l) (hs:It.same y x):∃ hl:lowI x l < l.length,l[lowI x l]=y:=by
 obtain ⟨j,hj,rfl⟩:=List.getElem_of_mem hy
 have e:lowI x l=j:=by
  refine low_is (by omega) (fun i hi hij=>?_) (fun _=>?_)
  ·have:=rising_get h hij hj
   exact ltB_true (by unfold It.lt at *;unfold It.same at hs;omega)
  ·exact ltB_false (by unfold It.lt;unfold It.same at hs;omega)
 refine ⟨by omega,?_⟩
 simp only [e]
theorem putL_same {x:It}:∀ {l:List It},sameAt x l=true→putL x l=l.set (lowI x l) x
 | [],h=>by simp [sameAt] at h
 | y :: l,h=>by
  unfold putL
  cases hy:ltB y x
  ·have e:lowI x (y :: l)=0:=by rw [low_cons,hy];rfl
   have hs:sameB y x=true:=by simpa [sameAt,e] using h
   have hs':It.same y x:=by simpa only [sameB,decide_eq_true_eq] using hs
   rw [e,ltB_false (by unfold It.lt;unfold It.same at hs';omega)]
   simp
  ·have e:lowI x (y :: l)=lowI x l+1:=by rw [low_cons,hy];rfl
   have hs:sameAt x l=true:=by simpa [sameAt,e] using h
   rw [e,putL_same hs]
   simp
theorem putL_else {x:It}:∀ {l:List It},sameAt x l=false→putL x l=l.take (lowI x l) ++ x :: l.drop (lowI x l)
 | [],_=>by simp [putL,lowI]
 | y :: l,h=>by
  unfold putL
  cases hy:ltB y x
  ·have e:lowI x (y :: l)=0:=by rw [low_cons,hy];rfl
   have hs:sameB y x=false:=by simpa [sameAt,e] using h
   have hs':¬ It.same y x:=by simpa only [sameB,decide_eq_false_iff_not] using hs
   have hy':¬ It.lt y x:=by simpa only [ltB,decide_eq_false_iff_not] using hy
   rw [e,ltB_true (a:=x) (by unfold It.lt at *;unfold It.same at hs';omega)]
   simp
  ·have e:lowI x (y :: l)=lowI x l+1:=by rw [low_cons,hy];rfl
   have hs:sameAt x l=false:=by simpa [sameAt,e] using h
   rw [e,putL_else hs]
   simp
def tombOf (s:Int):It:=⟨s,1,0,0,0⟩
def hidB (l:List It) (x:It):Bool:=l.any fun t=>hidesB t x
theorem hid_tomb {l:List It} (h:Rising l) (hg:∀ y ∈ l,It.good y) (x:It):hidB l x=(sameAt (tombOf x.s) l && (match l[lowI (tombOf x.s) l]? with | some t=>hidesB t x | none=>false)):=by
 unfold hidB
 by_cases h1:∃ t ∈ l,It.hides t x
 ·obtain ⟨t,ht,hh⟩:=h1
  have hs:It.same t (tombOf x.s):=by
   have:=hg t ht
   unfold It.hides at hh
   unfold It.good at this
   unfold It.same tombOf
   simp only
   omega
  obtain ⟨hl,e⟩:=sameAt_mem h ht hs
  have ea:(l.any fun t=>hidesB t x)=true:=List.any_eq_true.2 ⟨t,ht,hidesB_true hh⟩
  rw [ea,sameAt_in hl,List.getElem?_eq_getElem hl]
  simp only [e]
  rw [sameB_true hs,hidesB_true hh];rfl
 ·have e:(l.any fun t=>hidesB t x)=false:=by
   rw [Bool.eq_false_iff]
   intro hh
   obtain ⟨t,ht,h2⟩:=List.any_eq_true.1 hh
   exact h1 ⟨t,ht,by simpa [hidesB] using h2⟩
  rw [e]
  cases e2:l[lowI (tombOf x.s) l]? with
  | none=>simp
  | some t =>
   have ht:t ∈ l:=List.mem_of_getElem? e2
   simp [hidesB_false (fun hh=>h1 ⟨t,ht,hh⟩)]
theorem addL_hid {l:List It} {x:It} (hx:It.good x) (h:hidB l x=true):addL l x=l:=by
 unfold addL
 unfold hidB at h
 rw [goodB_true hx,if_neg (by simp),if_pos h]
theorem addL_beaten {l:List It} {x:It} (hr:Rising l) (hx:It.good x) (h:hidB l x=false) (hs:sameAt x l=true) (hl:lowI x l < l.length) (hw:winsB x l[lowI x l]=false):addL l x=l:=by
 unfold addL
 rw [goodB_true hx,if_neg (by simp)]
 unfold hidB at h
 rw [h,if_neg (by simp),if_pos]
 refine List.any_eq_true.2 ⟨l[lowI x l],List.getElem_mem hl,?_⟩
 rw [← sameAt_in hl,hs,hw];rfl
theorem addL_put {l:List It} {x:It} (hr:Rising l) (hx:It.good x) (h:hidB l x=false) (hw:sameAt x l=true→∀ hl:lowI x l < l.length,winsB x l[lowI x l]=true):addL l x=(putL x l).filter fun y=>!hidesB x y:=by
 unfold addL
 rw [goodB_true hx,if_neg (by simp)]
 unfold hidB at h
 rw [h,if_neg (by simp),if_neg]
 intro hh
 obtain ⟨y,hy,h3⟩:=List.any_eq_true.1 hh
 simp only [Bool.and_eq_true,Bool.not_eq_true'] at h3
 have hs:It.same y x:=by simpa only [sameB,decide_eq_true_eq] using h3.1
 obtain ⟨hl,e⟩:=sameAt_mem hr hy hs
 have:=hw (by rw [sameAt_in hl,e];exact h3.1) hl
 simp only [e] at this
 rw [h3.2] at this;cases this
theorem addL_store {l:List It} {x:It} (hr:Rising l) (hx:It.good x) (h:hidB l x=false) (hs:sameAt x l=true) (hl:lowI x l < l.length) (hw:winsB x l[lowI x l]=true):addL l x=(l.set (lowI x l) x).filter fun y=>!hidesB x y:=by
 rw [addL_put hr hx h (fun _ _=>hw),putL_same hs]
theorem addL_insert {l:List It} {x:It} (hr:Rising l) (hx:It.good x) (h:hidB l x=false) (hs:sameAt x l=false):addL l x=(l.take (lowI x l) ++ x :: l.drop (lowI x l)).filter fun y=>!hidesB x y:=by
 rw [addL_put hr hx h (fun hh=>by rw [hs] at hh;cases hh),putL_else hs]
theorem addL_len (l:List It) (x:It):(addL l x).length≤l.length+1:=by
 have hp:∀ l:List It,(putL x l).length≤l.length+1:=by
  intro l
  induction l with
  | nil=>simp [putL]
  | cons y l ih =>
   unfold putL
   split
   ·simp only [List.length_cons];omega
   ·split <;> simp
 unfold addL
 split
 ·omega
 ·split
  ·omega
  ·split
   ·omega
   ·exact Nat.le_trans (List.length_filter_le _ _) (hp l)
theorem addL_state {l:List It} (h:IsState l) (x:It):IsState (addL l x):=by
 by_cases hx:It.good x
 ·exact (addL_isOf h.isOf h.1 hx).state (fun y hy=>by rcases List.mem_cons.1 hy with e | e;(subst e;exact hx);exact h.1 y e)
 ·rw [addL_bad hx];exact h
theorem IsState.nil_:IsState []:=⟨by simp,Rising.nil_,by simp⟩
theorem foldl_state:∀ (M:List It) {l:List It},IsState l→IsState (M.foldl addL l)
 | [],_,h=>h
 | x :: M,_,h=>foldl_state M (addL_state h x)
theorem ofL_state (l:List It):IsState (ofL l):=foldl_state l IsState.nil_
theorem foldl_len:∀ (M:List It) (l:List It),(M.foldl addL l).length≤l.length+M.length
 | [],l=>by simp
 | x :: M,l=>by
  have h1:=foldl_len M (addL l x)
  have h2:=addL_len l x
  simp only [List.foldl_cons,List.length_cons] at *
  omega
theorem ofL_len (l:List It):(ofL l).length≤l.length:=by have:=foldl_len l [];simpa [ofL] using this
theorem IsState.take {l:List It} (h:IsState l) (k:Nat):IsState (l.take k) :=
 ⟨fun x hx=>h.1 x (List.mem_of_mem_take hx),List.Pairwise.sublist (List.take_sublist k l) h.2.1,fun t ht x hx=>h.2.2 t (List.mem_of_mem_take ht) x (List.mem_of_mem_take hx)⟩
theorem isState_snoc {l:List It} {k:Nat} (hk:k < l.length):IsState (l.take (k+1)) ↔ IsState (l.take k)∧It.good l[k]∧(∀ h:0 < k,It.lt (l[k - 1]'(by omega)) l[k])∧∀ t ∈ l.take k,¬ It.hides t l[k]:=by
 rw [List.take_succ_eq_append_getElem hk]
 constructor
 ·rintro ⟨hg,hr,hh⟩
  have hr':=List.pairwise_append.1 hr
  refine ⟨⟨fun x hx=>hg x (List.mem_append_left _ hx),hr'.1,fun t ht x hx=>hh t (List.mem_append_left _ ht) x (List.mem_append_left _ hx)⟩,hg _ (List.mem_append_right _ (List.mem_singleton.2 rfl)),fun h0=>?_,fun t ht=>hh t (List.mem_append_left _ ht) _ (List.mem_append_right _ (List.mem_singleton.2 rfl))⟩
  refine hr'.2.2 _ ?_ _ (by simp)
  exact List.mem_take_iff_getElem.2 ⟨k - 1,by omega,rfl⟩
 ·rintro ⟨⟨hg,hr,hh⟩,hx,hlt,hhx⟩
  have hall:∀ a ∈ l.take k,It.lt a l[k]:=by
   intro a ha
   obtain ⟨j,hj,rfl⟩:=List.getElem_of_mem ha
   have hj':j < k:=by simp at hj;omega
   have h0:=hlt (by omega)
   rw [List.getElem_take]
   by_cases e:j=k - 1
   ·subst e;exact h0
   ·have h2:=rising_get hr (i:=j) (j:=k - 1) (by omega) (by simp;omega)
    rw [List.getElem_take,List.getElem_take] at h2
    unfold It.lt at *;omega
  refine ⟨fun x hx'=>?_,List.pairwise_append.2 ⟨hr,by simp,fun a ha b hb=>?_⟩,fun t ht x hx'=>?_⟩
  ·rcases List.mem_append.1 hx' with h | h
   ·exact hg x h
   ·rw [List.mem_singleton] at h;subst h;exact hx
  ·rw [List.mem_singleton] at hb;subst hb;exact hall a ha
  ·rcases List.mem_append.1 ht with h | h <;> rcases List.mem_append.1 hx' with h' | h'
   ·exact hh t h x h'
   ·rw [List.mem_singleton] at h';subst h';exact hhx t h
   ·rw [List.mem_singleton] at h;subst h
    have:=hall x h'
    unfold It.hides;unfold It.lt at this;omega
   ·rw [List.mem_singleton] at h h';subst h;subst h'
    unfold It.hides;omega
open Classical in
noncomputable def stateB (l:List It):Bool:=decide (IsState l)
theorem stateB_true {l:List It} (h:IsState l):stateB l=true:=by unfold stateB;simp [h]
theorem stateB_false {l:List It} (h:¬ IsState l):stateB l=false:=by unfold stateB;simp [h]
theorem stateB_iff {l:List It}:stateB l=true ↔ IsState l:=by unfold stateB;simp
noncomputable def joinL (a b:List It):List It:=b.foldl addL (if stateB a then a else ofL a)
theorem joinL_nil (l:List It):joinL [] l=ofL l:=by unfold joinL;rw [stateB_true IsState.nil_];rfl
theorem joinL_state (a b:List It):IsState (joinL a b):=by
 unfold joinL
 split
 ·exact foldl_state b (stateB_iff.1 (by assumption))
 ·exact foldl_state b (ofL_state a)
theorem joinL_len (a b:List It):(joinL a b).length≤a.length+b.length:=by
 unfold joinL
 split
 ·exact foldl_len b a
 ·have:=foldl_len b (ofL a);have:=ofL_len a;omega
theorem joinL_of {a b:List It} (h:IsState a):joinL a b=b.foldl addL a:=by unfold joinL;rw [stateB_true h];rfl
end Go.Proofs.YtgmkckjedngkdaaGreatDoor
namespace Go.Proofs.YtgmkckjedngkdaaGreatDoor
open Go.ChangeShapes Go.WideShapes Go.ChangeAt Go.RowKit
theorem Tryz.infoItem:(Tryz.prog.info? 54).map (fun i=>(i.zero,i.size,i.bytes))=some (some (.agg #[.int .i64 0,.int .i64 0,.int .u64 0,.int .u64 0,.int .i64 0]),5,40):=by kernel_rfl
def Sl (w:World) (v:Value) (L:List It):Prop:=∃ A c,v=.slice A L.length c∧ItemsAt w A L∧L.length≤c∧c≤maxLen
theorem Sl.below {w w':World} {v:Value} {L:List It} (h:Sl w v L) (hb:Below w.heap.size w w'):Sl w' v L:=by
 obtain ⟨A,c,e,hr,h1,h2⟩:=h
 exact ⟨A,c,e,hr.below hb,h1,h2⟩
theorem Sl.mk_ {w:World} {A:Option Addr} {c:Nat} {L:List It} (h:ItemsAt w A L) (h1:L.length≤c) (h2:c≤maxLen):Sl w (.slice A L.length c) L:=⟨A,c,rfl,h,h1,h2⟩
theorem Sl.drewN {w:World} {v:Value} {L:List It} (h:Sl w v L) (n:Nat):Sl (w.drewN n) v L:=h
theorem Sl.nil_ (w:World):Sl w (.slice none 0 0) []:=⟨none,0,rfl,RowAt.nil_,by simp,by simp⟩
def Ow (base:Nat) (w:World) (v:Value) (L:List It):Prop:=OwnL It.cells 5 54 base w v L
theorem Ow.sl {base:Nat} {w:World} {v:Value} {L:List It} (h:Ow base w v L):Sl w v L:=by
 obtain ⟨A,c,e,hr,_,h1,h2⟩:=OwnL.row It.cells_len h
 exact ⟨A,c,e,hr,h1,h2⟩
theorem Ow.below {base:Nat} {w w':World} {v:Value} {L:List It} (h:Ow base w v L) (hb:Below w.heap.size w w'):Ow base w' v L:=OwnL.below h hb
theorem Ow.nil_ (base:Nat) (w:World):Ow base w (.slice none 0 0) []:=OwnL.nil_ _ _ _ _ _
theorem Ow.base_ {base base':Nat} {w:World} {v:Value} {L:List It} (h:Ow base w v L) (hb:base'≤base):Ow base' w v L:=OwnL.base_ h hb
def RetOw (L:List It) (w:World) (e:Ending) (w':World):Prop:=∃ v,e=.returned v∧Ow w.heap.size w' v L∧Below w.heap.size w w'
theorem wpList_append_item {ops:Array Oper} {rest:List Oper} {o:Oper} {a:Act} {Q:Exit→Act→World→Prop} (hgd:o.guard=none) (s x:Operand)
 (ho:o.op=.call { callee:=.builtin .append,args:=#[s,x],argTypes:=#[31,31] })
 (B base:Nat) (w0 w W:World) (v:Value) (L:List It) (y:It) (hs:a.eval s=v) (hx:a.eval x=.slice (some ⟨w.heap.size,0,none⟩) 1 1) (hW:W=w.alloc (.cells y.cells.toArray 54))
 (hown:Ow base w v L) (hb:Below B w0 w) (hB:B≤base) (hbase:base≤w.heap.size) (hn:L.length≤2199023255552)
 (h:∀ v' w',Ow base w' v' (L ++ [y])→Below B w0 w'→w.grownBy w' v.ownBlock→wpList Tryz.prog ops Q rest (a.put o.dst v') w'):wpList Tryz.prog ops Q (o :: rest) a W:=by
 subst hW
 obtain ⟨i0,hi,hz0,hz1,hz2⟩:=info_parts Tryz.infoItem
 refine wpList_append_row (w.alloc _) hgd s x 31 ho base 54 i0 _ 5 40 Tryz.underlying31 hi hz0 hz1 hz2 rfl (by omega) It.cells_len v L hs (OwnL.alloc hown _) (some ⟨w.heap.size,0,none⟩) 1 [y] hx (RowAt.new_one (t:=54) (fr:=(0,0)) (heap_alloc_new w _)) (by simp) (fun m _=>It.cells_one m) (by simp only [List.length_singleton,maxLen];omega) (by simp only [List.length_singleton];omega) (by simp;omega) ?_
 intro v1 w1 h1 hg _
 refine h v1 w1 h1 ?_ ?_
 ·exact (hb.alloc (Nat.le_trans hB hbase) _).grown hg (by simp;omega) (fun k hk=>Nat.le_trans hB (OwnL.lt hown k hk).1)
 ·exact ⟨hg.os,hg.tape,hg.output,Nat.le_trans (by simp) hg.size,fun k hk hne=>(hg.block k (by simp;omega) hne).trans (Below.heap_alloc w _ k hk)⟩
theorem near_cells (w:World):∀ (s:Near w) (b o:Nat),b < w.heap.size→s.at_.cell? ⟨b,o,none⟩=w.cell? ⟨b,o,none⟩:=fun s b o h=>s.is.cell (p:=⟨b,o,none⟩) h
theorem box_item {w:World} {g:Nat} {x:It} {t:TypeId} (h:w.heap[g]? = some (.cells x.cells.toArray t (0,0))) :
 w.cell? ⟨g,0,none⟩=some (.int .i64 x.s)∧w.cell? ⟨g,1,none⟩=some (.int .i64 x.k)∧w.cell? ⟨g,2,none⟩=some (.int .u64 x.t)∧w.cell? ⟨g,3,none⟩=some (.int .u64 x.v)∧w.cell? ⟨g,4,none⟩=some (.int .i64 x.x) :=
 ⟨(cell_of_row w g 0 _ _ _ h).trans rfl,(cell_of_row w g 1 _ _ _ h).trans rfl,(cell_of_row w g 2 _ _ _ h).trans rfl,(cell_of_row w g 3 _ _ _ h).trans rfl,(cell_of_row w g 4 _ _ _ h).trans rfl⟩
theorem put_res {w:World} {g:Nat} {a0 a1 a2 a3 a4:Value} {t:TypeId} (x:It) (h:w.heap[g]? = some (.cells #[a0,a1,a2,a3,a4] t (0,0))) :
 (((((w.setCell ⟨g,0,none⟩ (.int .i64 x.s)).setCell ⟨g,1,none⟩ (.int .i64 x.k)).setCell ⟨g,2,none⟩ (.int .u64 x.t)).setCell ⟨g,3,none⟩ (.int .u64 x.v)).setCell ⟨g,4,none⟩ (.int .i64 x.x)).heap[g]? = some (.cells x.cells.toArray t (0,0)):=by
 simp [World.setCell,Array.getElem?_modify,h,It.cells]
end Go.Proofs.YtgmkckjedngkdaaGreatDoor
