/- A part of the proof that TopMajorityLaw holds: XZIdx, XZEdt, XZEdw, XZEdp. Conditions: as typed. -/
import Derived.Test.YtgmkckjedngkdaaGreatDoorTm08
import Derived.Test.YtgmkckjedngkdaaGreatDoorTm11
import Derived.Test.YtgmkckjedngkdaaGreatDoorTm14
import Derived.StillTailTactics
import Derived.BigRegion
set_option linter.unusedVariables false
set_option linter.unusedSimpArgs false
namespace Go.Proofs.YtgmkckjedngkdaaGreatDoor
open Go.ChangeShapes Go.WideShapes Go.ChangeAt Go.RowKit
section
variable {α:Type}
def findG (p:α→Bool) (L:List α):Int:=match L.findIdx? p with | some i=>i | none=>-1
theorem findG_hit {p:α→Bool} {L:List α} {k:Nat} (hk:k < L.length) (h:∀ j (_:j < k) (hj':j < L.length),p L[j]=false) (hp:p L[k]=true):findG p L=k:=by
 have e:L.findIdx? p=some k:=by
  rw [List.findIdx?_eq_some_iff_getElem]
  exact ⟨hk,hp,fun j hj=>by simp [h j hj (by omega)]⟩
 simp [findG,e]
theorem findG_miss {p:α→Bool} {L:List α} (h:∀ j (hj':j < L.length),p L[j]=false):findG p L=-1:=by
 have e:L.findIdx? p=none:=by
  rw [List.findIdx?_eq_none_iff]
  intro x hx
  obtain ⟨j,hj,rfl⟩:=List.getElem_of_mem hx
  exact h j hj
 simp [findG,e]
theorem findG_nonneg (p:α→Bool) (L:List α):decide (0≤findG p L)=L.any p:=by
 unfold findG
 cases h:L.findIdx? p with
 | none =>
  rw [List.findIdx?_eq_none_iff] at h
  have:L.any p=false:=by rw [List.any_eq_false];intro x hx;simp [h x hx]
  rw [this];rfl
 | some i =>
  rw [List.findIdx?_eq_some_iff_getElem] at h
  obtain ⟨hi,hp,_⟩:=h
  have:L.any p=true:=List.any_eq_true.2 ⟨L[i],List.getElem_mem hi,hp⟩
  rw [this];simp
theorem missG_snoc {p:α→Bool} {L:List α} {k:Nat} {hk:k < L.length} (h:∀ j (_:j < k) (hj':j < L.length),p L[j]=false) (hp:p L[k]=false):∀ j (_:j < k+1) (hj':j < L.length),p L[j]=false:=by
 intro j hj hj'
 by_cases e:j=k
 ·subst e;exact hp
 ·exact h j (by omega) hj'
end
def TellsV {α:Type} (val:α→Value) (F:FuncId) (caps:Array Value) (p:α→Bool) (L:List α) (w:World):Prop :=
 ∀ x ∈ L,∀ w1,Below w.heap.size w w1→Calls Tryz.prog F (#[val x] ++ caps) w1 fun e w2=>e=.returned (.bool (p x))∧Below w1.heap.size w1 w2
theorem TellsV.nil_ {α:Type} (val:α→Value) (F:FuncId) (caps:Array Value) (p:α→Bool) (w:World):TellsV val F caps p [] w:=fun x hx=>by cases hx
set_option maxHeartbeats 400000 in
theorem indexG_u64v (F:FuncId) (caps:Array Value) (hcf:Enters Tryz.prog F) (p) (A:Option Addr) (c:Nat) (L) (w:World) (hl:L.length≤9223372036854775807) (hL:ValsAt u64v w A L)
 (hF:TellsV u64v F caps p L w) :
  Calls Tryz.prog 351 #[.slice A L.length c,.func (.func F) #[] caps] w fun e w'=>e=.returned (.int .i64 (findG p L))∧Below w.heap.size w w':=by
 unfold Enters at hcf
 unfold TellsV at hF
 go_enter Tryz.func351,Tryz.ntmps351
 go_wp2
 go_loopw [5,8] (fun _ i wr=>∃ k:Nat,k≤L.length∧i=.int .i64 k∧Below w.heap.size w wr∧∀ j (hj:j < k) (hj':j < L.length),p L[j]=false) (fun _ i _=>L.length - (intOf i).toNat)
 case atStart=>exact ⟨0,by omega,rfl,Below.refl _ _,by intro j hj;omega⟩
 case round =>
  obtain ⟨k,hk,rfl,hb,hp⟩:=hrel
  have HP:=hide hp
  clear hp
  by_cases hlt:k < L.length
  ·obtain ⟨b,off,rfl,hbb,c0⟩:=RowAt.one hL hb hlt
   have hFk:=hF L[k] (List.getElem_mem _) wr hb
   have HF:=hide hFk
   clear hFk hF
   cases hpk:p L[k]
   ·have HN:=hide (missG_snoc HP.out hpk)
    go_wp2_with (refine (Calls.mono HF.out ?_);rintro e w1 ⟨rfl,hg1⟩;try rw [hpk])
    go_roundw
    case rel=>exact ⟨k+1,by omega,by go_num,hb.trans (hg1.mono hb.size),HN.out⟩
    case measure=>simp [intOf];omega
   ·have HM:=hide (findG_hit hlt HP.out hpk)
    go_wp2_with (refine (Calls.mono HF.out ?_);rintro e w1 ⟨rfl,hg1⟩;try rw [hpk])
    go_ret
    exact ⟨by rw [HM.out];rfl,hb.trans (hg1.mono hb.size)⟩
  ·have HM:=hide (findG_miss (fun j hj=>HP.out j (by omega) hj))
   go_wp2
   go_ret
   exact ⟨by rw [HM.out];rfl,hb⟩
theorem containsG_u64v (F:FuncId) (caps:Array Value) (hcf:Enters Tryz.prog F) (p) (A:Option Addr) (c:Nat) (L) (w:World) (hl:L.length≤9223372036854775807) (hL:ValsAt u64v w A L)
 (hF:TellsV u64v F caps p L w) :
  Calls Tryz.prog 306 #[.slice A L.length c,.func (.func F) #[] caps] w fun e w'=>e=.returned (.bool (L.any p))∧Below w.heap.size w w':=by
 have H:=hide (indexG_u64v F caps hcf p A c L w hl hL hF)
 have HE:=hide (findG_nonneg p L)
 clear hF hL
 generalize findG p L=q at *
 generalize L.any p=r at *
 go_enter Tryz.func306,Tryz.ntmps306
 go_wp2_with (refine (Calls.mono H.out ?_);rintro e w1 ⟨rfl,hg1⟩)
 go_ret
 exact ⟨by rw [← HE.out];rfl,hg1⟩
set_option maxHeartbeats 400000 in
theorem indexG_strv (F:FuncId) (caps:Array Value) (hcf:Enters Tryz.prog F) (p) (A:Option Addr) (c:Nat) (L) (w:World) (hl:L.length≤9223372036854775807) (hL:ValsAt strv w A L)
 (hF:TellsV strv F caps p L w) :
  Calls Tryz.prog 184 #[.slice A L.length c,.func (.func F) #[] caps] w fun e w'=>e=.returned (.int .i64 (findG p L))∧Below w.heap.size w w':=by
 unfold Enters at hcf
 unfold TellsV at hF
 go_enter Tryz.func184,Tryz.ntmps184
 go_wp2
 go_loopw [5,8] (fun _ i wr=>∃ k:Nat,k≤L.length∧i=.int .i64 k∧Below w.heap.size w wr∧∀ j (hj:j < k) (hj':j < L.length),p L[j]=false) (fun _ i _=>L.length - (intOf i).toNat)
 case atStart=>exact ⟨0,by omega,rfl,Below.refl _ _,by intro j hj;omega⟩
 case round =>
  obtain ⟨k,hk,rfl,hb,hp⟩:=hrel
  have HP:=hide hp
  clear hp
  by_cases hlt:k < L.length
  ·obtain ⟨b,off,rfl,hbb,c0⟩:=RowAt.one hL hb hlt
   have hFk:=hF L[k] (List.getElem_mem _) wr hb
   have HF:=hide hFk
   clear hFk hF
   cases hpk:p L[k]
   ·have HN:=hide (missG_snoc HP.out hpk)
    go_wp2_with (refine (Calls.mono HF.out ?_);rintro e w1 ⟨rfl,hg1⟩;try rw [hpk])
    go_roundw
    case rel=>exact ⟨k+1,by omega,by go_num,hb.trans (hg1.mono hb.size),HN.out⟩
    case measure=>simp [intOf];omega
   ·have HM:=hide (findG_hit hlt HP.out hpk)
    go_wp2_with (refine (Calls.mono HF.out ?_);rintro e w1 ⟨rfl,hg1⟩;try rw [hpk])
    go_ret
    exact ⟨by rw [HM.out];rfl,hb.trans (hg1.mono hb.size)⟩
  ·have HM:=hide (findG_miss (fun j hj=>HP.out j (by omega) hj))
   go_wp2
   go_ret
   exact ⟨by rw [HM.out];rfl,hb⟩
theorem containsG_strv (F:FuncId) (caps:Array Value) (hcf:Enters Tryz.prog F) (p) (A:Option Addr) (c:Nat) (L) (w:World) (hl:L.length≤9223372036854775807) (hL:ValsAt strv w A L)
 (hF:TellsV strv F caps p L w) :
  Calls Tryz.prog 118 #[.slice A L.length c,.func (.func F) #[] caps] w fun e w'=>e=.returned (.bool (L.any p))∧Below w.heap.size w w':=by
 have H:=hide (indexG_strv F caps hcf p A c L w hl hL hF)
 have HE:=hide (findG_nonneg p L)
 clear hF hL
 generalize findG p L=q at *
 generalize L.any p=r at *
 go_enter Tryz.func118,Tryz.ntmps118
 go_wp2_with (refine (Calls.mono H.out ?_);rintro e w1 ⟨rfl,hg1⟩)
 go_ret
 exact ⟨by rw [← HE.out];rfl,hg1⟩
set_option maxHeartbeats 400000 in
theorem indexG_ptv (F:FuncId) (caps:Array Value) (hcf:Enters Tryz.prog F) (p) (A:Option Addr) (c:Nat) (L) (w:World) (hl:L.length≤9223372036854775807) (hL:ValsAt ptv w A L)
 (hF:TellsV ptv F caps p L w) :
  Calls Tryz.prog 180 #[.slice A L.length c,.func (.func F) #[] caps] w fun e w'=>e=.returned (.int .i64 (findG p L))∧Below w.heap.size w w':=by
 unfold Enters at hcf
 unfold TellsV at hF
 go_enter Tryz.func180,Tryz.ntmps180
 go_wp2
 go_loopw [5,8] (fun _ i wr=>∃ k:Nat,k≤L.length∧i=.int .i64 k∧Below w.heap.size w wr∧∀ j (hj:j < k) (hj':j < L.length),p L[j]=false) (fun _ i _=>L.length - (intOf i).toNat)
 case atStart=>exact ⟨0,by omega,rfl,Below.refl _ _,by intro j hj;omega⟩
 case round =>
  obtain ⟨k,hk,rfl,hb,hp⟩:=hrel
  have HP:=hide hp
  clear hp
  by_cases hlt:k < L.length
  ·obtain ⟨b,off,rfl,hbb,c0⟩:=RowAt.one hL hb hlt
   have hFk:=hF L[k] (List.getElem_mem _) wr hb
   have HF:=hide hFk
   clear hFk hF
   cases hpk:p L[k]
   ·have HN:=hide (missG_snoc HP.out hpk)
    go_wp2_with (refine (Calls.mono HF.out ?_);rintro e w1 ⟨rfl,hg1⟩;try rw [hpk])
    go_roundw
    case rel=>exact ⟨k+1,by omega,by go_num,hb.trans (hg1.mono hb.size),HN.out⟩
    case measure=>simp [intOf];omega
   ·have HM:=hide (findG_hit hlt HP.out hpk)
    go_wp2_with (refine (Calls.mono HF.out ?_);rintro e w1 ⟨rfl,hg1⟩;try rw [hpk])
    go_ret
    exact ⟨by rw [HM.out];rfl,hb.trans (hg1.mono hb.size)⟩
  ·have HM:=hide (findG_miss (fun j hj=>HP.out j (by omega) hj))
   go_wp2
   go_ret
   exact ⟨by rw [HM.out];rfl,hb⟩
theorem containsG_ptv (F:FuncId) (caps:Array Value) (hcf:Enters Tryz.prog F) (p) (A:Option Addr) (c:Nat) (L) (w:World) (hl:L.length≤9223372036854775807) (hL:ValsAt ptv w A L)
 (hF:TellsV ptv F caps p L w) :
  Calls Tryz.prog 114 #[.slice A L.length c,.func (.func F) #[] caps] w fun e w'=>e=.returned (.bool (L.any p))∧Below w.heap.size w w':=by
 have H:=hide (indexG_ptv F caps hcf p A c L w hl hL hF)
 have HE:=hide (findG_nonneg p L)
 clear hF hL
 generalize findG p L=q at *
 generalize L.any p=r at *
 go_enter Tryz.func114,Tryz.ntmps114
 go_wp2_with (refine (Calls.mono H.out ?_);rintro e w1 ⟨rfl,hg1⟩)
 go_ret
 exact ⟨by rw [← HE.out];rfl,hg1⟩
set_option maxHeartbeats 400000 in
theorem index0_file (A:Option Addr) (c:Nat) (f:Value) (w:World) :
 Calls Tryz.prog 258 #[.slice A 0 c,f] w fun e w'=>e=.returned (.int .i64 (-1))∧w'=w:=by
 go_enter Tryz.func258,Tryz.ntmps258
 go_wp2
 go_loopw [8] (fun i wr=>i=.int .i64 0∧wr=w) (fun _ _=>0)
 case atStart=>exact ⟨rfl,rfl⟩
 case round =>
  obtain ⟨rfl,rfl⟩:=hrel
  go_wp2
  go_ret
  exact ⟨rfl,rfl⟩
theorem contains0_file (A:Option Addr) (c:Nat) (f:Value) (w:World) :
 Calls Tryz.prog 252 #[.slice A 0 c,f] w fun e w'=>e=.returned (.bool false)∧w'=w:=by
 have H:=hide (index0_file A c f w)
 go_enter Tryz.func252,Tryz.ntmps252
 go_wp2_with (refine (Calls.mono H.out ?_);rintro e w1 ⟨rfl,rfl⟩)
 go_ret
 exact ⟨rfl,rfl⟩
set_option maxHeartbeats 400000 in
theorem index0_int (A:Option Addr) (c:Nat) (f:Value) (w:World) :
 Calls Tryz.prog 353 #[.slice A 0 c,f] w fun e w'=>e=.returned (.int .i64 (-1))∧w'=w:=by
 go_enter Tryz.func353,Tryz.ntmps353
 go_wp2
 go_loopw [8] (fun i wr=>i=.int .i64 0∧wr=w) (fun _ _=>0)
 case atStart=>exact ⟨rfl,rfl⟩
 case round =>
  obtain ⟨rfl,rfl⟩:=hrel
  go_wp2
  go_ret
  exact ⟨rfl,rfl⟩
theorem contains0_int (A:Option Addr) (c:Nat) (f:Value) (w:World) :
 Calls Tryz.prog 309 #[.slice A 0 c,f] w fun e w'=>e=.returned (.bool false)∧w'=w:=by
 have H:=hide (index0_int A c f w)
 go_enter Tryz.func309,Tryz.ntmps309
 go_wp2_with (refine (Calls.mono H.out ?_);rintro e w1 ⟨rfl,rfl⟩)
 go_ret
 exact ⟨rfl,rfl⟩
end Go.Proofs.YtgmkckjedngkdaaGreatDoor
namespace Go.Proofs.YtgmkckjedngkdaaGreatDoor
open Go.ChangeShapes Go.WideShapes Go.ChangeAt Go.RowKit
structure Vw where
 log:Int
 fl:Int
 ce:Int
 at_:Int
 le:Int
abbrev Vw.val (v:Vw):Value:=.agg #[.int .i64 v.log,.slice none 0 0,.int .u64 v.fl,.int .u64 v.ce,.int .u64 v.at_,.int .u64 v.le]
abbrev ver48 (n:Int):Prop:=0≤n∧n≤281474976710656
structure Vw.ok (v:Vw):Prop where
 log:1≤v.log∧v.log≤1073741824
 fl:ver48 v.fl
 ce:ver48 v.ce
 at_:ver48 v.at_
 le:ver48 v.le
structure Ed where
 log:Int
 fl:Int
 ce:Int
 at_:Int
 le:Int
abbrev Ed.val (v:Ed):Value:=.agg #[.slice none 0 0,.slice none 0 0,.int .i64 v.log,.int .u64 v.fl,.int .u64 v.ce,.int .u64 v.at_,.int .u64 v.le]
structure Ed.ok (v:Ed):Prop where
 log:0≤v.log∧v.log≤1073741824
 fl:ver48 v.fl
 ce:ver48 v.ce
 at_:ver48 v.at_
 le:ver48 v.le
theorem meta1_any (n:Int) (w:World) (h:n≤281474976710656):Calls Tryz.prog 307 #[.int .u64 n] w fun e w'=>e=.returned (.bool false)∧Below w.heap.size w w':=by
 have h1:¬ 281474976710656 < n:=by omega
 go_enter Tryz.func307,Tryz.ntmps307
 go_wp2
 go_ret
 exact ⟨rfl,Below.refl _ _⟩
theorem meta1_in:Enters Tryz.prog 307:=fun _ _=>by kernel_rfl
set_option maxHeartbeats 800000 in
theorem emeta4 (a b c d:Int) (g:Nat) (w:World) (hg:w.heap.size=g) (ha:ver48 a) (hb:ver48 b) (hc:ver48 c) (hd:ver48 d) :
 Calls Tryz.prog 250 #[.slice (some ⟨g,0,none⟩) 4 4] (w.alloc (.cells #[.int .u64 a,.int .u64 b,.int .u64 c,.int .u64 d] 29)) fun e w'=>e=.returned (.bool true)∧Below w.heap.size w w':=by
 subst hg
 have hz:=heap_alloc_new w (.cells #[.int .u64 a,.int .u64 b,.int .u64 c,.int .u64 d] 29)
 have hbl:=below_alloc (Below.refl w.heap.size w) (.cells #[.int .u64 a,.int .u64 b,.int .u64 c,.int .u64 d] 29)
 have hc:=containsG_u64v 307 #[] meta1_in (fun _=>false) (some ⟨w.heap.size,0,none⟩) 4 [a,b,c,d] _ (by simp) (vals_of_block (val:=u64v) (L:=[a,b,c,d]) hz) (by
  intro x hx w1 _
  simp only [List.mem_cons,List.not_mem_nil,or_false] at hx
  exact meta1_any x w1 (by rcases hx with rfl | rfl | rfl | rfl;exact ha.2;exact hb.2;exact hc.2;exact hd.2))
 rw [show ([a,b,c,d].any fun _=>false)=false from rfl] at hc
 have HC:=hide hc
 have HB:=hide hbl
 clear hz hbl hc ha hb hd
 obtain ⟨wa,hwa⟩:∃ wa,w.alloc (.cells #[.int .u64 a,.int .u64 b,.int .u64 c,.int .u64 d] 29)=wa:=⟨_,rfl⟩
 rw [hwa] at HC HB ⊢
 rw [show [a,b,c,d].length=4 from rfl] at HC
 clear hwa
 go_enter Tryz.func250,Tryz.ntmps250
 go_wp2_with ((with_reducible refine (HC.out).mono ?_);rintro e w1 ⟨rfl,hg1⟩)
 go_ret
 exact ⟨rfl,below_step HB.out hg1⟩
set_option maxRecDepth 100000 in
set_option maxHeartbeats 1600000 in
theorem may_yes (v:Ed) (w:World) (h:v.ok):Calls Tryz.prog 257 #[v.val] w fun e w'=>e=.returned (.bool true)∧Below w.heap.size w w':=by
 obtain ⟨lo,f,c,a,l⟩:=v
 obtain ⟨⟨h1,h2⟩,hf,hc,ha,hl⟩:=h
 simp only at h1 h2 hf hc ha hl
 have HM:=hide (fun o=>emeta4 f c a l (w.heap.size+1) (w.alloc o) (by simp) hf hc ha hl)
 have HI:=hide (fun A c f W=>contains0_int A c f W)
 have HF:=hide (fun A c f W=>contains0_file A c f W)
 clear hf hc ha hl
 go_enter Tryz.func257,Tryz.ntmps257
 go_wp2_with (first
  | ((with_reducible refine (HM.out _).mono ?_);rintro e w1 ⟨rfl,hg1⟩;have hbx:=(hg1.block w.heap.size (by simp)).trans (heap_alloc_new w _);have x0:w1.cell? ⟨w.heap.size,0,none⟩=some (.slice none 0 0):=(cell_of_row w1 w.heap.size 0 _ _ _ hbx).trans rfl;have x1:w1.cell? ⟨w.heap.size,1,none⟩=some (.slice none 0 0):=(cell_of_row w1 w.heap.size 1 _ _ _ hbx).trans rfl;have HG1:=hide (below_step (below_alloc (Below.refl w.heap.size w) _) hg1);clear hg1 hbx)
  | ((with_reducible refine (HI.out _ _ _ _).mono ?_);rintro e w2 ⟨rfl,rfl⟩)
  | ((with_reducible refine (HF.out _ _ _ _).mono ?_);rintro e w3 ⟨rfl,rfl⟩))
 go_ret
 exact ⟨rfl,HG1.out⟩
theorem isnum_yes (n:Int) (w:World) (h1:1≤n) (h2:n≤1073741824):Calls Tryz.prog 249 #[.int .i64 n] w fun e w'=>e=.returned (.bool true)∧w'=w:=by
 go_enter Tryz.func249,Tryz.ntmps249
 go_wp2
 go_ret
 exact ⟨rfl,rfl⟩
set_option maxRecDepth 100000 in
set_option maxHeartbeats 1600000 in
theorem vok_yes (v:Vw) (w:World) (h:v.ok):Calls Tryz.prog 194 #[v.val] w fun e w'=>e=.returned (.bool true)∧Below w.heap.size w w':=by
 obtain ⟨lo,f,c,a,l⟩:=v
 obtain ⟨⟨h1,h2⟩,hf,hc,ha,hl⟩:=h
 simp only at h1 h2 hf hc ha hl
 have HM:=hide (fun o=>emeta4 f c a l (w.heap.size+1) (w.alloc o) (by simp) hf hc ha hl)
 have HI:=hide (fun W=>isnum_yes lo W h1 h2)
 clear hf hc ha hl
 go_enter Tryz.func194,Tryz.ntmps194
 go_wp2_with (first
  | ((with_reducible refine (HI.out _).mono ?_);rintro e w2 ⟨rfl,rfl⟩)
  | ((with_reducible refine (HM.out _).mono ?_);rintro e w1 ⟨rfl,hg1⟩;have hbx:=(hg1.block w.heap.size (by simp)).trans (heap_alloc_new w _);have x1:w1.cell? ⟨w.heap.size,1,none⟩=some (.slice none 0 0):=(cell_of_row w1 w.heap.size 1 _ _ _ hbx).trans rfl;have HG1:=hide (below_step (below_alloc (Below.refl w.heap.size w) _) hg1);clear hg1 hbx))
 go_loopw [31] (fun i wr=>i=.int .i64 0∧wr=w1) (fun _ _=>0)
 case atStart=>exact ⟨rfl,rfl⟩
 case round =>
  obtain ⟨rfl,rfl⟩:=hrel
  go_wp2
  go_ret
  exact ⟨rfl,HG1.out⟩
def wholeE (v:Vw):Ed:=⟨v.log,v.fl,v.ce,v.at_,v.le⟩
theorem wholeE_ok {v:Vw} (h:v.ok):(wholeE v).ok:=⟨by have:=h.log;exact ⟨by show 0≤v.log;omega,this.2⟩,h.fl,h.ce,h.at_,h.le⟩
end Go.Proofs.YtgmkckjedngkdaaGreatDoor
namespace Go.Proofs.YtgmkckjedngkdaaGreatDoor
open Go.ChangeShapes Go.WideShapes Go.ChangeAt Go.RowKit
theorem infoFile:(Tryz.prog.info? 232).map (fun i=>(i.zero,i.size,i.bytes))=some (some (.agg #[.int .i64 0,.int .i64 0]),2,16):=by kernel_rfl
theorem app_files0 (W:World) (ty:TypeId):(Builtin.append_ #[140,140] ty #[.slice none 0 0,.slice none 0 0]).run Tryz.prog W=.ok (.slice none 0 0) W:=by
 obtain ⟨i0,hi,hz0,hz1,hz2⟩:=info_parts infoFile
 exact run_append_of_nil W 0 140 ty 232 i0 2 Tryz.underlying140 hi (.slice none 0 0) 0 [] ⟨rfl,.inl ⟨rfl,rfl⟩⟩ 0
theorem ed_put {w:World} {g:Nat} {d0 d1 d2 d3 d4 d5 d6:Value} {t:TypeId} (h:w.heap[g]? = some (.cells #[d0,d1,d2,d3,d4,d5,d6] t (0,0))) (e0 e1 e2 e3 e4 e5 e6:Value) :
 (((((((w.setCell ⟨g,0,none⟩ e0).setCell ⟨g,1,none⟩ e1).setCell ⟨g,2,none⟩ e2).setCell ⟨g,3,none⟩ e3).setCell ⟨g,4,none⟩ e4).setCell ⟨g,5,none⟩ e5).setCell ⟨g,6,none⟩ e6).heap[g]? = some (.cells #[e0,e1,e2,e3,e4,e5,e6] t (0,0)):=by
 simp [World.setCell,Array.getElem?_modify,h]
theorem vw_cells {w:World} {g:Nat} {v:Vw} {t:TypeId} (h:w.heap[g]? = some (.cells #[.int .i64 v.log,.slice none 0 0,.int .u64 v.fl,.int .u64 v.ce,.int .u64 v.at_,.int .u64 v.le] t (0,0))) :
 w.cell? ⟨g,0,none⟩=some (.int .i64 v.log)∧w.cell? ⟨g,1,none⟩=some (.slice none 0 0)∧w.cell? ⟨g,2,none⟩=some (.int .u64 v.fl)∧w.cell? ⟨g,3,none⟩=some (.int .u64 v.ce)∧w.cell? ⟨g,4,none⟩=some (.int .u64 v.at_)∧w.cell? ⟨g,5,none⟩=some (.int .u64 v.le) :=
 ⟨(cell_of_row w g 0 _ _ _ h).trans rfl,(cell_of_row w g 1 _ _ _ h).trans rfl,(cell_of_row w g 2 _ _ _ h).trans rfl,(cell_of_row w g 3 _ _ _ h).trans rfl,(cell_of_row w g 4 _ _ _ h).trans rfl,(cell_of_row w g 5 _ _ _ h).trans rfl⟩
theorem ed_cells {w:World} {g:Nat} {v:Ed} {t:TypeId} (h:w.heap[g]? = some (.cells #[.slice none 0 0,.slice none 0 0,.int .i64 v.log,.int .u64 v.fl,.int .u64 v.ce,.int .u64 v.at_,.int .u64 v.le] t (0,0))) :
 w.cell? ⟨g,0,none⟩=some (.slice none 0 0)∧w.cell? ⟨g,1,none⟩=some (.slice none 0 0)∧w.cell? ⟨g,2,none⟩=some (.int .i64 v.log)∧w.cell? ⟨g,3,none⟩=some (.int .u64 v.fl)∧w.cell? ⟨g,4,none⟩=some (.int .u64 v.ce)∧w.cell? ⟨g,5,none⟩=some (.int .u64 v.at_)∧w.cell? ⟨g,6,none⟩=some (.int .u64 v.le) :=
 ⟨(cell_of_row w g 0 _ _ _ h).trans rfl,(cell_of_row w g 1 _ _ _ h).trans rfl,(cell_of_row w g 2 _ _ _ h).trans rfl,(cell_of_row w g 3 _ _ _ h).trans rfl,(cell_of_row w g 4 _ _ _ h).trans rfl,(cell_of_row w g 5 _ _ _ h).trans rfl,(cell_of_row w g 6 _ _ _ h).trans rfl⟩
set_option maxRecDepth 100000 in
set_option maxHeartbeats 1600000 in
theorem whole_any (v:Vw) (w:World):Calls Tryz.prog 218 #[v.val] w fun e w'=>e=.returned (wholeE v).val∧Below w.heap.size w w':=by
 obtain ⟨lo,f,c,a,l⟩:=v
 have happ:=app_files0
 go_enter Tryz.func218,Tryz.ntmps218
 go_upto_region 1 with fail
 have hz2:=heap_alloc_new (w.alloc (.cells #[.int .i64 lo,.slice none 0 0,.int .u64 f,.int .u64 c,.int .u64 a,.int .u64 l] 142)) (.cells #[.slice none 0 0,.slice none 0 0,.int .i64 0,.int .u64 0,.int .u64 0,.int .u64 0,.int .u64 0] 163)
 rw [World.size_alloc] at hz2
 have hb1:=below_alloc (Below.refl w.heap.size w) (.cells #[.int .i64 lo,.slice none 0 0,.int .u64 f,.int .u64 c,.int .u64 a,.int .u64 l] 142)
 have hb2:=below_alloc (Below.refl (w.alloc (.cells #[.int .i64 lo,.slice none 0 0,.int .u64 f,.int .u64 c,.int .u64 a,.int .u64 l] 142)).heap.size (w.alloc (.cells #[.int .i64 lo,.slice none 0 0,.int .u64 f,.int .u64 c,.int .u64 a,.int .u64 l] 142))) (.cells #[.slice none 0 0,.slice none 0 0,.int .i64 0,.int .u64 0,.int .u64 0,.int .u64 0,.int .u64 0] 163)
 have hz1:=(hb2.block w.heap.size (by simp)).trans (heap_alloc_new w (.cells #[.int .i64 lo,.slice none 0 0,.int .u64 f,.int .u64 c,.int .u64 a,.int .u64 l] 142))
 have hbb:=below_step hb1 hb2
 obtain ⟨wb,hwb⟩:∃ wb,(w.alloc (.cells #[.int .i64 lo,.slice none 0 0,.int .u64 f,.int .u64 c,.int .u64 a,.int .u64 l] 142)).alloc (.cells #[.slice none 0 0,.slice none 0 0,.int .i64 0,.int .u64 0,.int .u64 0,.int .u64 0,.int .u64 0] 163)=wb:=⟨_,rfl⟩
 rw [hwb] at hz1 hz2 hbb ⊢
 have hl1:w.heap.size < wb.heap.size:=(Array.getElem?_eq_some_iff.1 hz1).1
 have HC:Hid (∀ W,Below wb.drew.heap.size wb.drew W→_):=hide (fun W hW=>vw_cells (v:=⟨lo,f,c,a,l⟩) ((hW.block w.heap.size hl1).trans hz1))
 have HZ2:=hide hz2
 have HBB:=hide hbb
 obtain ⟨gr,hgr⟩:∃ gr,w.heap.size+1=gr:=⟨_,rfl⟩
 rw [hgr] at HZ2 ⊢
 have HGR:=hide hgr
 obtain ⟨y0,y1,y2,y3,y4,y5,y6⟩:=ed_cells (v:=⟨0,0,0,0,0⟩) HZ2.out
 have yf:∀ o,wb.frozen? ⟨gr,o,none⟩=false:=fun o=>by have h:=HZ2.out;simp [World.frozen?,h]
 have yf0:=yf 0;have yf1:=yf 1;have yf2:=yf 2;have yf3:=yf 3;have yf4:=yf 4;have yf5:=yf 5;have yf6:=yf 6
 clear hz1 hz2 hb1 hb2 hbb hwb hgr hl1
 refine j_start [14] (by kernel_rfl) ?_
 refine' j_t 0 [1,2,13,14] rfl (by kernel_rfl) rfl ?y0 ?r0
 case y0=>(intro w' hw';go_simp;try with_reducible rfl)
 try go_frame
 refine' j_t 1 [2,13,14] rfl (by kernel_rfl) rfl ?y1 ?r1
 case y1=>(intro w' hw';obtain ⟨x0,x1,x2,x3,x4,x5⟩:=HC.out _ hw';go_simp;try with_reducible rfl)
 try go_frame
 refine' j_t 2 [13,14] rfl (by kernel_rfl) rfl ?y2 ?r2
 case y2=>(intro w' hw';have hap:=happ w' 140;go_simp;try with_reducible rfl)
 try go_frame
 refine' j_t 3 [4,13,14] rfl (by kernel_rfl) rfl ?y3 ?r3
 case y3=>(intro w' hw';go_simp;try with_reducible rfl)
 try go_frame
 refine' j_t 4 [13,14] rfl (by kernel_rfl) rfl ?y4 ?r4
 case y4=>(intro w' hw';obtain ⟨x0,x1,x2,x3,x4,x5⟩:=HC.out _ hw';go_simp;try with_reducible rfl)
 try go_frame
 refine' j_t 5 [6,13,14] rfl (by kernel_rfl) rfl ?y5 ?r5
 case y5=>(intro w' hw';go_simp;try with_reducible rfl)
 try go_frame
 refine' j_t 6 [13,14] rfl (by kernel_rfl) rfl ?y6 ?r6
 case y6=>(intro w' hw';obtain ⟨x0,x1,x2,x3,x4,x5⟩:=HC.out _ hw';go_simp;try with_reducible rfl)
 try go_frame
 refine' j_t 7 [8,13,14] rfl (by kernel_rfl) rfl ?y7 ?r7
 case y7=>(intro w' hw';go_simp;try with_reducible rfl)
 try go_frame
 refine' j_t 8 [13,14] rfl (by kernel_rfl) rfl ?y8 ?r8
 case y8=>(intro w' hw';obtain ⟨x0,x1,x2,x3,x4,x5⟩:=HC.out _ hw';go_simp;try with_reducible rfl)
 try go_frame
 refine' j_t 9 [10,13,14] rfl (by kernel_rfl) rfl ?y9 ?r9
 case y9=>(intro w' hw';go_simp;try with_reducible rfl)
 try go_frame
 refine' j_t 10 [13,14] rfl (by kernel_rfl) rfl ?y10 ?r10
 case y10=>(intro w' hw';obtain ⟨x0,x1,x2,x3,x4,x5⟩:=HC.out _ hw';go_simp;try with_reducible rfl)
 try go_frame
 refine' j_t 11 [12,13,14] rfl (by kernel_rfl) rfl ?y11 ?r11
 case y11=>(intro w' hw';go_simp;try with_reducible rfl)
 try go_frame
 refine' j_t 12 [13,14] rfl (by kernel_rfl) rfl ?y12 ?r12
 case y12=>(intro w' hw';obtain ⟨x0,x1,x2,x3,x4,x5⟩:=HC.out _ hw';go_simp;try with_reducible rfl)
 try go_frame
 refine' j_t 13 [14] rfl (by kernel_rfl) rfl ?y13 ?r13
 case y13=>(intro w' hw';go_simp;try with_reducible rfl)
 try go_frame
 refine' j_l 14 (by kernel_rfl) rfl (by kernel_rfl) (fun K hK=>?s14)
 go_simp
 refine hK.out _ _ ?_
 clear hK K
 try go_frame
 refine wpAnyJ_done (by kernel_rfl) ?_ _
 refine NoPanic.normal ?_
 go_wp2_with fail
 have hp:=ed_put HZ2.out (.slice none 0 0) (.slice none 0 0) (.int .i64 lo) (.int .u64 f) (.int .u64 c) (.int .u64 a) (.int .u64 l)
 have hS:=(((((((sets1 wb gr 0 (.slice none 0 0)).set (g:=gr) (fun _=>rfl) 1 (.slice none 0 0)).set (g:=gr) (fun _=>rfl) 2 (.int .i64 lo)).set (g:=gr) (fun _=>rfl) 3 (.int .u64 f)).set (g:=gr) (fun _=>rfl) 4 (.int .u64 c)).set (g:=gr) (fun _=>rfl) 5 (.int .u64 a)).set (g:=gr) (fun _=>rfl) 6 (.int .u64 l))
 obtain ⟨wf,hwf⟩:∃ wf,(((((((wb.setCell ⟨gr,0,none⟩ (.slice none 0 0)).setCell ⟨gr,1,none⟩ (.slice none 0 0)).setCell ⟨gr,2,none⟩ (.int .i64 lo)).setCell ⟨gr,3,none⟩ (.int .u64 f)).setCell ⟨gr,4,none⟩ (.int .u64 c)).setCell ⟨gr,5,none⟩ (.int .u64 a)).setCell ⟨gr,6,none⟩ (.int .u64 l))=wf:=⟨_,rfl⟩
 rw [hwf] at hp hS ⊢
 clear hwf
 obtain ⟨r0,r1,r2,r3,r4,r5,r6⟩:=ed_cells (v:=⟨lo,f,c,a,l⟩) hp
 refine bodyPost_ret (v:=(wholeE ⟨lo,f,c,a,l⟩).val) (by simp [results,Tryz.results218,go_sem,r0,r1,r2,r3,r4,r5,r6,wholeE]) rfl ?_
 exact ⟨rfl,(Sets.below HBB.out hS (fun b e=>by rw [e,← HGR.out];omega) HBB.out.size).drew⟩
end Go.Proofs.YtgmkckjedngkdaaGreatDoor
namespace Go.Proofs.YtgmkckjedngkdaaGreatDoor
open Go.ChangeShapes Go.WideShapes Go.ChangeAt Go.RowKit
set_option maxHeartbeats 800000 in
theorem nlist0 (w:World):Calls Tryz.prog 280 #[.slice none 0 0,.slice none 0 0] w fun e w'=>∃ v,e=.returned v∧OwnL (one1 u8v) 1 5 w.heap.size w' v (putT 0)∧Below w.heap.size w w':=by
 have hp:Calls Tryz.prog 221 #[.slice none 0 0,.int .u64 0] w fun e w'=>∃ v,e=.returned v∧OwnL (one1 u8v) 1 5 w.heap.size w' v ([] ++ putT 0)∧Below w.heap.size w w':=putT_any none 0 [] 0 w (by simp) RowAt.nil_ (by omega)
 have HP:=hide hp
 clear hp
 go_enter Tryz.func280,Tryz.ntmps280
 go_wp2_with ((with_reducible refine (HP.out).mono ?_);rintro e w1 ⟨v1,rfl,ho,hg⟩;have HO:=hide ho;have HG:=hide hg;clear ho hg)
 go_loopw [5,15] (fun b i wr=>b=v1∧i=.int .i64 0∧wr=w1) (fun _ _ _=>0)
 case atStart=>exact ⟨rfl,rfl,rfl⟩
 case round =>
  obtain ⟨rfl,rfl,rfl⟩:=hrel
  go_wp2
  go_ret
  exact ⟨_,rfl,by simpa using HO.out,HG.out⟩
def edN (v:Ed):List Int:=[v.log,v.fl,v.ce,v.at_,v.le]
def bodyE (v:Ed):List Int:=putT 0 ++ putT 0 ++ (edN v).flatMap putT
theorem edN_bd {v:Ed} (h:v.ok):∀ n ∈ edN v,0≤n∧n < 18446744073709551616:=by
 have h1:=h.log;have h2:=h.fl;have h3:=h.ce;have h4:=h.at_;have h5:=h.le
 unfold ver48 at h2 h3 h4 h5
 intro n hn
 simp only [edN,List.mem_cons,List.not_mem_nil,or_false] at hn
 rcases hn with rfl | rfl | rfl | rfl | rfl <;> omega
theorem flat_put_len:∀ (N:List Int),(N.flatMap putT).length≤11 * N.length
 | []=>by simp
 | n :: N=>by
  have h1:=flat_put_len N
  have h2:=putT_len n
  simp only [List.flatMap_cons,List.length_append,List.length_cons]
  omega
theorem flat_put_b:∀ {N:List Int},(∀ n ∈ N,0≤n∧n < 18446744073709551616)→∀ b ∈ N.flatMap putT,isB b:=by
 intro N h b hb
 obtain ⟨n,hn,hb2⟩:=List.mem_flatMap.1 hb
 exact putT_b (h n hn).1 b hb2
theorem bodyE_len (v:Ed):(bodyE v).length≤77:=by
 have h1:=putT_len 0
 have h2:=flat_put_len (edN v)
 unfold bodyE
 rw [List.length_append,List.length_append]
 have:(edN v).length=5:=rfl
 omega
theorem bodyE_b {v:Ed} (h:v.ok):∀ b ∈ bodyE v,isB b:=by
 intro b hb
 rcases List.mem_append.1 hb with hb | hb
 ·rcases List.mem_append.1 hb with hb | hb
  ·exact putT_b (by omega) b hb
  ·exact putT_b (by omega) b hb
 ·exact flat_put_b (edN_bd h) b hb
set_option maxRecDepth 100000 in
set_option maxHeartbeats 3200000 in
theorem eput_any (v:Ed) (w:World) (h:v.ok):Calls Tryz.prog 217 #[.slice none 0 0,v.val] w fun e w'=>∃ u,e=.returned (.tuple #[u,.int .i64 0])∧OwnL (one1 u8v) 1 5 w.heap.size w' u (frameT 6 (bodyE v))∧Below w.heap.size w w':=by
 have hlog:=h.log
 have HV:=hide h
 have hz:=heap_alloc_new w (.cells #[.slice none 0 0,.slice none 0 0,.int .i64 v.log,.int .u64 v.fl,.int .u64 v.ce,.int .u64 v.at_,.int .u64 v.le] 163)
 have hb1:=below_alloc (Below.refl w.heap.size w) (.cells #[.slice none 0 0,.slice none 0 0,.int .i64 v.log,.int .u64 v.fl,.int .u64 v.ce,.int .u64 v.at_,.int .u64 v.le] 163)
 have HM:=hide (fun W=>may_yes v W h)
 obtain ⟨x0,x1,x2,x3,x4,x5,x6⟩:=ed_cells hz
 have HZ:=hide hz
 have HB1:=hide hb1
 have HE:=hide (edN_bd h)
 clear hz hb1 h
 go_enter Tryz.func217,Tryz.ntmps217
 go_wp2_with ((with_reducible refine (HM.out _).mono ?_);rintro e w1 ⟨rfl,hg1⟩;have hz1:=(hg1.block w.heap.size (by simp)).trans HZ.out;have HZ1:=hide hz1;obtain ⟨y0,y1,y2,y3,y4,y5,y6⟩:=ed_cells hz1;have HG0:=hide (below_step HB1.out hg1);clear hg1 hz1 x0 x1 x2 x3 x4 x5 x6)
 go_loopw [6,20] (fun d i wr=>d=.slice none 0 0∧i=.int .i64 0∧wr=w1) (fun _ _ _=>0)
 case atStart=>exact ⟨rfl,rfl,rfl⟩
 case round =>
 obtain ⟨rfl,rfl,rfl⟩:=hrel
 obtain ⟨wa,rfl⟩:∃ wa,wa=wr:=⟨_,rfl⟩
 have hlz:w.heap.size < wa.heap.size:=(Array.getElem?_eq_some_iff.1 HZ1.out).1
 have HC:Hid (∀ W,Below wa.drew.heap.size wa.drew W→_):=hide (fun W hW=>ed_cells (v:=v) ((hW.block w.heap.size hlz).trans HZ1.out))
 have hli:=nlist0 wa.drew
 have hpl:=putT_len 0
 have HBE:Hid (bodyE v=putT 0 ++ putT 0 ++ (edN v).flatMap putT):=hide rfl
 have hnp:=fun (A1:Option Addr) (c1:Nat) (W:World) (hl:(putT 0).length≤1099511627776) (hr:ValsAt u8v W A1 (putT 0))=>putT_any A1 c1 (putT 0) 0 W hl hr (by omega)
 obtain ⟨P0,hP0⟩:∃ P0,putT 0=P0:=⟨_,rfl⟩
 rw [hP0] at hli hpl
 simp only [hP0] at hnp HBE
 have HP0:=hide hP0
 have HNP0:=hide hnp
 have HLI:=hide hli
 have HPL:=hide hpl
 clear hP0 hnp hli hpl
 clear HM
 go_upto_region 9 with fail
 refine j_start [] (by kernel_rfl) ?_
 refine' j_t 0 [] rfl (by kernel_rfl) rfl ?y0 ?r0
 case y0=>(intro w' hw';go_simp;try with_reducible rfl)
 try go_frame
 refine' j_t 2 [] rfl (by kernel_rfl) rfl ?y2 ?r2
 case y2=>(intro w' hw';go_simp;try with_reducible rfl)
 try go_frame
 refine' j_t 3 [] rfl (by kernel_rfl) rfl ?y3 ?r3
 case y3=>(intro w' hw';obtain ⟨x0,x1,x2,x3,x4,x5,x6⟩:=HC.out _ hw';go_simp;try with_reducible rfl)
 try go_frame
 refine' j_t 4 [] rfl (by kernel_rfl) rfl ?y4 ?r4
 case y4=>(intro w' hw';go_simp;try with_reducible rfl)
 try go_frame
 refine' j_t 5 [] rfl (by kernel_rfl) rfl ?y5 ?r5
 case y5=>(intro w' hw';go_simp;try with_reducible rfl)
 try go_frame
 refine' j_s 1 (by kernel_rfl) rfl (fun K hK=>?s1)
 go_simp
 refine (Calls.mono (HLI.out) ?_);rintro e u1 ⟨v1,rfl,ho1,gg⟩
 have HG1:=hide gg
 obtain ⟨A1,c1,rfl,hr1,hc1,hm1⟩:=OwnL.vals ho1
 have HR1:=hide hr1
 clear ho1 hr1 hc1 hm1
 have HNP:=hide (HNP0.out A1 c1 _ (by have:=HPL.out;omega) HR1.out)
 refine hK.out _ _ gg (j_switch gg ?_)
 clear hK K gg
 try go_frame
 refine' j_s 6 (by kernel_rfl) rfl (fun K hK=>?s6)
 go_simp
 refine (Calls.mono (HNP.out) ?_);rintro e u2 ⟨v2,rfl,ho2,gg⟩
 have HG2:=hide gg
 have HO2:=hide ho2
 clear ho2
 refine hK.out _ _ gg (j_switch gg ?_)
 clear hK K gg
 try go_frame
 refine' j_t 7 [] rfl (by kernel_rfl) rfl ?y7 ?r7
 case y7=>(intro w' hw';go_simp;try with_reducible rfl)
 try go_frame
 refine wpAnyJ_done (by kernel_rfl) ?_ _
 refine NoPanic.normal ?_
 have hw2:Below w.heap.size w u2:=below_step HG0.out (below_step (Below.refl _ wa).drew (below_step HG1.out HG2.out))
 have hwa2:Below wa.heap.size wa u2:=below_step (Below.refl _ wa).drew (below_step HG1.out HG2.out)
 have hz2:=(hwa2.block w.heap.size hlz).trans HZ1.out
 have HO3:Hid (OwnL (one1 u8v) 1 5 w.heap.size u2 v2 (P0 ++ P0)):=hide (OwnL.base_ HO2.out (by have:=HG0.out.size;have:=HG1.out.size;simp only [World.size_drew] at this;omega))
 have HW2:=hide hw2
 obtain ⟨q0,q1,q2,q3,q4,q5,q6⟩:=ed_cells hz2
 have hq:w.heap.size < u2.heap.size:=Nat.lt_of_lt_of_le hlz hwa2.size
 have hlog1:=hlog.1
 have hlog2:=hlog.2
 clear y0 y1 y2 y3 y4 y5 y6 HC HNP HLI HR1 HG1 HG2 HO2 hw2 hwa2 hz2
 go_wp2_with fail
 go_loopw [9,40] (fun b i wr=>b=v2∧i=.int .i64 0∧wr=u2) (fun _ _ _=>0)
 case atStart=>exact ⟨rfl,rfl,rfl⟩
 case round =>
 obtain ⟨rfl,rfl,rfl⟩:=hrel
 obtain ⟨wc,rfl⟩:∃ wc,wc=wr:=⟨_,rfl⟩
 go_wp2_with fail
 have hzn:=vals_of_block (val:=u64v) (L:=edN v) (heap_alloc_new wc (.cells #[.int .u64 v.log,.int .u64 v.fl,.int .u64 v.ce,.int .u64 v.at_,.int .u64 v.le] 29))
 have hbd:=below_alloc (Below.refl wc.heap.size wc) (.cells #[.int .u64 v.log,.int .u64 v.fl,.int .u64 v.ce,.int .u64 v.at_,.int .u64 v.le] 29)
 have hnl:(edN v).length=5:=rfl
 have HBE2:Hid (bodyE v=P0 ++ P0 ++ (edN v).flatMap putT):=HBE
 have HBB:=hide (bodyE_b HV.out)
 have HBL:=hide (bodyE_len v)
 have HFR:=hide (fun (A:Option Addr) (c:Nat) (W:World) (hL:ValsAt u8v W A (bodyE v))=>fput_any 6 A c (bodyE v) W (by omega) (by have:=bodyE_len v;omega) hL (bodyE_b HV.out))
 have hfl:=flat_put_len (edN v)
 obtain ⟨wd,hwd⟩:∃ wd,wc.alloc (.cells #[.int .u64 v.log,.int .u64 v.fl,.int .u64 v.ce,.int .u64 v.at_,.int .u64 v.le] 29)=wd:=⟨_,rfl⟩
 rw [hwd] at hzn hbd ⊢
 have HWD:=hide (below_step HW2.out hbd)
 have HZN:=hide hzn
 have HO4:=hide (HO3.out.below hbd)
 have HED:=hide (edN_bd HV.out)
 clear hzn hbd hwd q0 q1 q2 q3 q4 q5 q6
 generalize edN v=N at *
 obtain ⟨BE,hBE⟩:∃ BE,bodyE v=BE:=⟨_,rfl⟩
 simp only [hBE] at HBE2 HFR
 have HBQ:=hide hBE
 clear hBE HBE HBB HBL
 have HFL:=hide hfl
 have HNL:=hide hnl
 clear hfl hnl
 go_loopw [9,67] (fun b i wr=>∃ k:Nat,k≤5∧i=.int .i64 k∧OwnL (one1 u8v) 1 5 w.heap.size wr b (P0 ++ P0 ++ (N.take k).flatMap putT)∧Below wd.heap.size wd wr) (fun _ i _=>5 - (intOf i).toNat)
 case atStart=>exact ⟨0,by omega,rfl,by simpa using HO4.out,Below.refl _ _⟩
 case round =>
  obtain ⟨k,hk,rfl,ho,hg⟩:=hrel
  have HG:=hide hg
  by_cases hlt:k < 5
  ·have hlN:k < N.length:=by rw [HNL.out];exact hlt
   obtain ⟨b,off,hbe,hbb,c0⟩:=RowAt.one HZN.out hg hlN
   injection hbe with hbe
   injection hbe with hb1 hb2
   subst hb1
   subst hb2
   rw [Nat.zero_add] at c0
   have hltI:(k:Int) < 5:=by omega
   have hnb:=HED.out _ (List.getElem_mem hlN)
   have HT:Hid ((N.take (k+1)).flatMap putT=(N.take k).flatMap putT ++ putT (N[k]'hlN)):=hide (by rw [take_snoc hlN,List.flatMap_append];simp)
   have hln:((N.take k).flatMap putT).length≤55:=by
    have:=flat_put_len (N.take k)
    have h2:(N.take k).length≤5:=by rw [List.length_take];omega
    omega
   obtain ⟨A2,c2,rfl,hr2,_,_⟩:=OwnL.vals ho
   have HP:=hide (putT_any A2 c2 (P0 ++ P0 ++ (N.take k).flatMap putT) (N[k]'hlN) wr (by rw [List.length_append,List.length_append];have:=HPL.out;omega) hr2 hnb)
   clear ho hr2 hg hln hnb
   generalize (N.take k).flatMap putT=LL at *
   generalize N[k]'hlN=n at *
   obtain ⟨q,hq2⟩:∃ q,(P0 ++ P0 ++ LL).length=q:=⟨_,rfl⟩
   rw [hq2] at HP
   rw [hq2]
   clear hq2
   go_wp2_with ((with_reducible refine (HP.out).mono ?_);rintro e w5 ⟨v5,rfl,ho5,hg5⟩;have HO5:=hide ho5;have HG5:=hide hg5;clear ho5 hg5)
   go_roundw
   case rel=>exact ⟨k+1,by omega,by go_num,by rw [HT.out,← List.append_assoc];exact OwnL.base_ HO5.out (by have:=HWD.out.size;have:=HG.out.size;omega),below_step HG.out HG5.out⟩
   case measure=>simp [intOf];omega
  ·have hltI:¬ (k:Int) < 5:=by omega
   have hT:N.take k=N:=List.take_of_length_le (by rw [HNL.out];omega)
   rw [hT,← HBE2.out] at ho
   obtain ⟨A2,c2,rfl,hr2,_,_⟩:=OwnL.vals ho
   have HF:=hide (HFR.out A2 c2 wr hr2)
   clear ho hr2 hT hg hlt hk
   go_wp2_with ((with_reducible refine (HF.out).mono ?_);rintro e w5 ⟨v5,rfl,ho5,hg5⟩;have HO5:=hide ho5;have HG5:=hide hg5;clear ho5 hg5)
   go_returns
   have hw:Below w.heap.size w wr:=below_step HWD.out HG.out
   have ho6:=OwnL.base_ HO5.out hw.size
   rw [← HBQ.out] at ho6
   exact ⟨v5,rfl,ho6,below_step hw HG5.out⟩
end Go.Proofs.YtgmkckjedngkdaaGreatDoor
