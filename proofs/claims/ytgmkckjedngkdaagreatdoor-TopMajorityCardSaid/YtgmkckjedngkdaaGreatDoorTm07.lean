/- A part of the proof that TopMajorityLaw holds: XTSum, XFil, XREq. Conditions: as typed. -/
import Derived.Test.YtgmkckjedngkdaaGreatDoorTm03
import Derived.Test.YtgmkckjedngkdaaGreatDoorTm05
import Derived.Test.YtgmkckjedngkdaaGreatDoorTm06
import Derived.Laws.StructEq
set_option linter.unusedVariables false
set_option linter.unusedSimpArgs false
namespace Go.Proofs.YtgmkckjedngkdaaGreatDoor
open Go.ChangeShapes Go.WideShapes Go.ChangeAt Go.RowKit
theorem Tryz.infoU8t:(Tryz.prog.info? 5).map (fun i=>(i.zero,i.size,i.bytes))=some (some (.int .u8 0),1,1):=by kernel_rfl
def putAuxT:Nat→Int→List Int
 | 0,_=>[]
 | f+1,n=>if n < 128 then [n] else bits .or .u8 (n % 256) 128 :: putAuxT f (n / 128)
def putT (n:Int):List Int:=putAuxT 11 n
theorem putAuxT_len (f:Nat) (n:Int):(putAuxT f n).length≤f:=by
 induction f generalizing n with
 | zero=>simp [putAuxT]
 | succ f ih =>
  rw [putAuxT]
  split
  ·simp
  ·rw [List.length_cons];have:=ih (n / 128);omega
set_option maxHeartbeats 1000000 in
theorem putT_any (A:Option Addr) (c:Nat) (L:List Int) (n:Int) (w:World) (hl:L.length≤1099511627776) (hL:ValsAt u8v w A L) (hn:0≤n∧n < 18446744073709551616) :
 Calls Tryz.prog 221 #[.slice A L.length c,.int .u64 n] w fun e w'=>∃ v,e=.returned v∧OwnL (one1 u8v) 1 5 w.heap.size w' v (L ++ putT n)∧Below w.heap.size w w':=by
 go_enter Tryz.func221,Tryz.ntmps221
 go_wp2_with (at_builtin;refine wpList_append_vals rfl (.const (.slice none 0 0)) (.tmp 6) 173 5 _ 1 rfl Tryz.underlying173 Tryz.infoU8t rfl (fun _=>rfl) (by omega) w.heap.size _ [] rfl (OwnL.nil_ _ _ _ _ _) A c L rfl hL (by simp;omega) (Nat.le_refl _) ?_;intro v1 u1 ho1 hgu1)
 have hgu2:w.grownBy u1 none:=hgu1
 have hb1:Below w.heap.size w u1:=(Below.refl _ _).grown hgu2 (Nat.le_refl _) (fun k hk=>nomatch hk)
 have HO1:=hide ho1
 have HB1:=hide hb1
 clear ho1 hgu1 hgu2 hb1 hL
 rw [List.nil_append] at HO1
 go_loopw [1,5] (fun m v wr=>∃ (f:Nat) (M:List Int) (x:Int),M.length+f=10∧0≤x∧x < 2 ^ (7 * f)∧x < 18446744073709551616∧putT n=M ++ putAuxT (f+1) x∧m=.int .u64 x∧OwnL (one1 u8v) 1 5 w.heap.size wr v (L ++ M)∧Below w.heap.size w wr) (fun m _ _=>(intOf m).toNat)
 case atStart=>exact ⟨10,[],n,rfl,hn.1,Int.lt_trans hn.2 (by decide),hn.2,rfl,rfl,by rw [List.append_nil];exact HO1.out,HB1.out⟩
 case round =>
  obtain ⟨f,M,x,hf,hx0,hx1,hx2,hpe,rfl,ho,hb⟩:=hrel
  clear HO1 HB1
  have HO:=hide ho
  have HB:=hide hb
  have HPE:=hide hpe
  have hbs:=hb.size
  have HX1:=hide hx1
  clear ho hb hpe hx1
  by_cases h128:x < 128
  ·have hge:¬ (128≤x):=by omega
   have hxm:x % 256=x:=by omega
   go_wp2_with (at_builtin;refine wpList_append_one rfl (.tmp 18) (.tmp 21) 173 5 _ 1 rfl Tryz.underlying173 Tryz.infoU8t rfl (fun _=>rfl) (by omega) _ _ _ _ _ _ (L ++ M) x rfl rfl rfl HO.out HB.out (Nat.le_refl _) hbs (by rw [List.length_append];omega) ?_;intro v2 u2 ho2 hbu2 hgu2)
   refine bodyPost_ret (v:=v2) (by simp [results,Tryz.results221]) rfl ⟨v2,rfl,?_,hbu2⟩
   rw [HPE.out,show putAuxT (f+1) x=[x] from by rw [putAuxT,if_pos h128],← List.append_assoc]
   exact ho2
  ·have hge:128≤x:=by omega
   obtain ⟨y,hy⟩:∃ y,bits .or .u8 (x % 256) 128=y:=⟨_,rfl⟩
   go_wp2_with (at_builtin;refine wpList_append_one rfl (.tmp 12) (.tmp 16) 173 5 _ 1 rfl Tryz.underlying173 Tryz.infoU8t rfl (fun _=>rfl) (by omega) _ _ _ _ _ _ (L ++ M) y rfl rfl rfl HO.out HB.out (Nat.le_refl _) hbs (by rw [List.length_append];omega) ?_;intro v2 u2 ho2 hbu2 hgu2)
   rcases f with _ | f
   ·have:=HX1.out
    simp at this
    omega
   have hx3:x / 128 < 2 ^ (7 * f):=by
    apply Int.ediv_lt_of_lt_mul (by decide)
    have h:=HX1.out
    rw [show 7 * (f+1)=7 * f+7 by omega,Int.pow_add] at h
    exact h
   refine ⟨⟨f,M ++ [y],x / 128,by rw [List.length_append,List.length_singleton];omega,by omega,hx3,by omega,?_,rfl,?_,hbu2⟩,by simp [intOf];omega⟩
   ·rw [HPE.out,show putAuxT (f+1+1) x=bits .or .u8 (x % 256) 128 :: putAuxT (f+1) (x / 128) from by rw [putAuxT,if_neg h128],hy]
    simp
   ·rw [← List.append_assoc];exact ho2
def signT (x:Int):Int:=bits .xor .u64 (IntKind.u64.wrap (IntKind.u64.wrap x * 2)) (IntKind.u64.wrap (x / 9223372036854775808))
theorem sign_any (x:Int) (w:World) (hx:-9223372036854775808≤x∧x≤9223372036854775807):Calls Tryz.prog 319 #[.int .i64 x] w fun e w'=>e=.returned (.int .u64 (signT x))∧w'=w:=by
 go_enter Tryz.func319,Tryz.ntmps319
 go_wp2_with fail
 go_ret
 exact ⟨rfl,rfl⟩
end Go.Proofs.YtgmkckjedngkdaaGreatDoor
namespace Go.Proofs.YtgmkckjedngkdaaGreatDoor
open Go.ChangeShapes Go.WideShapes Go.ChangeAt Go.RowKit
def serP (s:Int) (x:It):Bool:=decide (x.s=s)
section
variable {p:It→Bool} {L:List It} {k:Nat}
theorem filt_in (hk:k < L.length):p L[k]=true→(L.take (k+1)).filter p=(L.take k).filter p ++ [L[k]]:=fun h=>by rw [List.take_succ_eq_append_getElem hk,List.filter_append];simp [h]
theorem filt_out (hk:k < L.length):p L[k]=false→(L.take (k+1)).filter p=(L.take k).filter p:=fun h=>by rw [List.take_succ_eq_append_getElem hk,List.filter_append];simp [h]
theorem filt_len (p:It→Bool) (L:List It) (k:Nat):((L.take k).filter p).length≤k:=Nat.le_trans (List.length_filter_le _ _) (List.length_take_le _ _)
theorem filt_all (p:It→Bool) (L:List It):(L.take L.length).filter p=L.filter p:=by rw [List.take_length]
end
def eqI (a b:It):Bool:=a.s == b.s && (a.k == b.k && (a.t == b.t && (a.v == b.v && a.x == b.x)))
theorem eqI_iff {a b:It}:eqI a b=true ↔ a=b:=by
 cases a;cases b
 simp [eqI]
theorem eqI_self (a:It):eqI a a=true:=eqI_iff.2 rfl
theorem Tryz.structItem:Tryz.prog.underlying 54=some (.struct (Tryz.prog.fieldsOf 54)):=by kernel_rfl
theorem Tryz.plainItem:Tryz.prog.stoodInHeld 54=false:=by kernel_rfl
theorem run_eql_item (a b:It) (w:World):(binOp .eql 54 a.val b.val).run Tryz.prog w=.ok (.bool (eqI a b)) w:=by
 rw [run_eql_struct,show (10000:Nat)=9999+1 from rfl,run_equalIn_agg w 9999 54 _ _ Tryz.structItem Tryz.plainItem]
 have u1:=Tryz.underlying3
 have u2:=Tryz.underlying29
 have u3:=Tryz.underlying2
 have a1:=Tryz.isAgg3
 have a2:=Tryz.isAgg29
 have a3:=Tryz.isAgg2
 have z1:=Tryz.sizeOf3
 have z2:=Tryz.sizeOf29
 have z3:=Tryz.sizeOf2
 simp only [Program.fieldsOf,Tryz.underlying54]
 go_simp
 unfold eqI
 by_cases h0:a.s=b.s <;> by_cases h1:a.k=b.k <;> by_cases h2:a.t=b.t <;> by_cases h3:a.v=b.v <;> by_cases h4:a.x=b.x <;> simp [h0,h1,h2,h3,h4]
theorem run_neq_item (a b:It) (w:World):(binOp .neq 54 a.val b.val).run Tryz.prog w=.ok (.bool (!eqI a b)) w:=by
 have h:=run_eql_item a b w
 rw [run_eql_struct] at h
 rw [run_neq_struct]
 generalize (Op.equalIn 10000 54 (.agg #[.int .i64 a.s,.int .i64 a.k,.int .u64 a.t,.int .u64 a.v,.int .i64 a.x]) (.agg #[.int .i64 b.s,.int .i64 b.k,.int .u64 b.t,.int .u64 b.v,.int .i64 b.x])).run Tryz.prog w=r at *
 cases r with
 | halt h w'=>simp [Result.andThen] at h
 | ok c w' =>
  simp only [Result.andThen_ok,Result.ok.injEq,Value.bool.injEq] at h
  rw [h.1,h.2];rfl
def eqL:List It→List It→Bool
 | [],[]=>true
 | a :: l,b :: m=>eqI a b && eqL l m
 | [],_ :: _=>false
 | _ :: _,[]=>false
theorem eqL_iff:∀ {a b:List It},eqL a b=true ↔ a=b
 | [],[]=>by simp [eqL]
 | a :: l,b :: m=>by simp [eqL,eqI_iff,eqL_iff]
 | [],_ :: _=>by simp [eqL]
 | _ :: _,[]=>by simp [eqL]
theorem eqL_false {a b:List It} (h:a ≠ b):eqL a b=false:=by
 cases e:eqL a b
 ·rfl
 ·exact absurd (eqL_iff.1 e) h
theorem eqL_len {a b:List It} (h:a.length ≠ b.length):eqL a b=false:=eqL_false fun e=>h (by rw [e])
theorem take_eq {a b:List It} (h:a.length=b.length) {k:Nat} (hk:a.length≤k) (ht:a.take k=b.take k):eqL a b=true:=by
 rw [List.take_of_length_le hk,List.take_of_length_le (by omega)] at ht
 exact eqL_iff.2 ht
theorem take_ne {a b:List It} {k:Nat} (ha:k < a.length) (hb:k < b.length) (h:eqI a[k] b[k]=false):eqL a b=false:=by
 refine eqL_false fun e=>?_
 subst e
 rw [eqI_self] at h;cases h
theorem take_on {a b:List It} {k:Nat} (ha:k < a.length) (hb:k < b.length) (ht:a.take k=b.take k) (h:eqI a[k] b[k]=true):a.take (k+1)=b.take (k+1):=by
 rw [List.take_succ_eq_append_getElem ha,List.take_succ_eq_append_getElem hb,ht,eqI_iff.1 h]
end Go.Proofs.YtgmkckjedngkdaaGreatDoor
namespace Go.Proofs.YtgmkckjedngkdaaGreatDoor
open Go.ChangeShapes Go.WideShapes Go.ChangeAt Go.RowKit
end Go.Proofs.YtgmkckjedngkdaaGreatDoor
