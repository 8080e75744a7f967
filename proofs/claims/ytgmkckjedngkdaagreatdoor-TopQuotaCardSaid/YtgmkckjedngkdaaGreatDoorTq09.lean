/- A part of the proof that TopQuotaLaw holds: XFil, XREq. Conditions: as typed. -/
import Derived.Test.YtgmkckjedngkdaaGreatDoorTq07
import Derived.Laws.StructEq
set_option linter.unusedVariables false
set_option linter.unusedSimpArgs false
namespace Go.Proofs.YtgmkckjedngkdaaGreatDoor
open Go.ChangeShapes Go.WideShapes Go.ChangeAt Go.RowKit
def serP (s:Int) (x:It):Bool:=decide (x.s=s)
section
variable {p:It→Bool} {L:List It} {k:Nat}
theorem filt_in (hk:k < L.length):p L[k]=true→(L.take (k+1)).filter p=(L.take k).filter p ++ [L[k]]:=fun h=>by rw [List.take_succ_eq_append_getElem hk,List.filter_append];simp [h]
theorem filt_out (hk:k < L.length):p L[k]=false→(L.take (k+1)).filter p=(L.take k).filter p:=fun h=>by rw [List.take_succ_eq_append_getElem hk,List.filter_append];simp [h]
theorem filt_len (p:It→Bool) (L:List It) (k:Nat):((L.take k).filter p).length≤k:=Nat.le_trans (List.length_filter_le _ _) (List.length_take_le _ _)
theorem filt_all (p:It→Bool) (L:List It):(L.take L.length).filter p=L.filter p:=by rw [List.take_length]
end
def eqI (a b:It):Bool:=a.s == b.s && (a.k == b.k && (a.t == b.t && (a.v == b.v && a.x == b.x)))
theorem eqI_iff {a b:It}:eqI a b=true ↔ a=b:=by
 cases a;cases b
 simp [eqI]
theorem eqI_self (a:It):eqI a a=true:=eqI_iff.2 rfl
theorem Tryz.structItem:Tryz.prog.underlying 54=some (.struct (Tryz.prog.fieldsOf 54)):=by kernel_rfl
theorem Tryz.plainItem:Tryz.prog.stoodInHeld 54=false:=by kernel_rfl
theorem run_eql_item (a b:It) (w:World):(binOp .eql 54 a.val b.val).run Tryz.prog w=.ok (.bool (eqI a b)) w:=by
 rw [run_eql_struct,show (10000:Nat)=9999+1 from rfl,run_equalIn_agg w 9999 54 _ _ Tryz.structItem Tryz.plainItem]
 have u1:=Tryz.underlying3
 have u2:=Tryz.underlying29
 have u3:=Tryz.underlying2
 have a1:=Tryz.isAgg3
 have a2:=Tryz.isAgg29
 have a3:=Tryz.isAgg2
 have z1:=Tryz.sizeOf3
 have z2:=Tryz.sizeOf29
 have z3:=Tryz.sizeOf2
 simp only [Program.fieldsOf,Tryz.underlying54]
 go_simp
 unfold eqI
 by_cases h0:a.s=b.s <;> by_cases h1:a.k=b.k <;> by_cases h2:a.t=b.t <;> by_cases h3:a.v=b.v <;> by_cases h4:a.x=b.x <;> simp [h0,h1,h2,h3,h4]
theorem run_neq_item (a b:It) (w:World):(binOp .neq 54 a.val b.val).run Tryz.prog w=.ok (.bool (!eqI a b)) w:=by
 have h:=run_eql_item a b w
 rw [run_eql_struct] at h
 rw [run_neq_struct]
 generalize (Op.equalIn 10000 54 (.agg #[.int .i64 a.s,.int .i64 a.k,.int .u64 a.t,.int .u64 a.v,.int .i64 a.x]) (.agg #[.int .i64 b.s,.int .i64 b.k,.int .u64 b.t,.int .u64 b.v,.int .i64 b.x])).run Tryz.prog w=r at *
 cases r with
 | halt h w'=>simp [Result.andThen] at h
 | ok c w' =>
   simp only [Result.andThen_ok,Result.ok.injEq,Value.bool.injEq] at h
   rw [h.1,h.2];rfl
def eqL:List It→List It→Bool
 | [],[]=>true
 | a :: l,b :: m=>eqI a b && eqL l m
 | [],_ :: _=>false
 | _ :: _,[]=>false
theorem eqL_iff:∀ {a b:List It},eqL a b=true ↔ a=b
 | [],[]=>by simp [eqL]
 | a :: l,b :: m=>by simp [eqL,eqI_iff,eqL_iff]
 | [],_ :: _=>by simp [eqL]
 | _ :: _,[]=>by simp [eqL]
theorem eqL_self (a:List It):eqL a a=true:=eqL_iff.2 rfl
theorem eqL_false {a b:List It} (h:a ≠ b):eqL a b=false:=by
 cases e:eqL a b
 · rfl
 · exact absurd (eqL_iff.1 e) h
theorem eqL_len {a b:List It} (h:a.length ≠ b.length):eqL a b=false:=eqL_false fun e=>h (by rw [e])
theorem take_eq {a b:List It} (h:a.length=b.length) {k:Nat} (hk:a.length≤k) (ht:a.take k=b.take k):eqL a b=true:=by
 rw [List.take_of_length_le hk,List.take_of_length_le (by omega)] at ht
 exact eqL_iff.2 ht
theorem take_ne {a b:List It} {k:Nat} (ha:k < a.length) (hb:k < b.length) (h:eqI a[k] b[k]=false):eqL a b=false:=by
 refine eqL_false fun e=>?_
 subst e
 rw [eqI_self] at h;cases h
theorem take_on {a b:List It} {k:Nat} (ha:k < a.length) (hb:k < b.length) (ht:a.take k=b.take k) (h:eqI a[k] b[k]=true):a.take (k+1)=b.take (k+1):=by
 rw [List.take_succ_eq_append_getElem ha,List.take_succ_eq_append_getElem hb,ht,eqI_iff.1 h]
end Go.Proofs.YtgmkckjedngkdaaGreatDoor
namespace Go.Proofs.YtgmkckjedngkdaaGreatDoor
open Go.ChangeShapes Go.WideShapes Go.ChangeAt Go.RowKit
set_option maxHeartbeats 1600000 in
theorem requal_any (A B:Option Addr) (c d:Nat) (L M:List It) (w:World) (hL:ItemsAt w A L) (hM:ItemsAt w B M) (hn:L.length≤4611686018427387904) (hm:M.length≤4611686018427387904) :
   Calls Tryz.prog 11 #[.slice A L.length c,.slice B M.length d] w fun e w'=>e=.returned (.bool (eqL L M))∧Below w.heap.size w w':=by
 have HL:=hide hL
 have HM:=hide hM
 clear hL hM
 by_cases hlen:L.length=M.length
 case neg =>
   have HE:=hide (eqL_len hlen)
   have hb:((L.length:Int) == (M.length:Int))=false:=beq_eq_false_iff_ne.2 (by omega)
   have hb2:((L.length:Int) != (M.length:Int))=true:=by rw [bne_iff_ne];omega
   go_enter Tryz.func11,Tryz.ntmps11
   go_wp2_with fail
   go_ret
   exact ⟨by rw [HE.out];rfl,Below.refl _ _⟩
 have hb:((L.length:Int) == (M.length:Int))=true:=beq_iff_eq.2 (by omega)
 have hb2:((L.length:Int) != (M.length:Int))=false:=by simp [hlen]
 have HLen:=hide hlen
 have hle:M.length≤L.length:=by omega
 have hle2:L.length≤M.length:=by omega
 clear hlen
 go_enter Tryz.func11,Tryz.ntmps11
 go_wp2_with fail
 go_loopw [5] (fun i wr=>∃ k:Nat,i=.int .i64 k∧k≤L.length∧Below w.heap.size w wr∧L.take k=M.take k) (fun i _=>L.length - (intOf i).toNat)
 case atStart=>exact ⟨0,rfl,by omega,Below.refl _ _,rfl⟩
 case round =>
   obtain ⟨k,rfl,hk,hb,ht⟩:=hrel
   have HT:=hide ht
   clear ht
   by_cases hlt:k < L.length
   · obtain ⟨bl,off,rfl,hbb,y0,y1,y2,y3,y4⟩:=ItemsAt.item HL.out hb hlt
     obtain ⟨bl2,off2,rfl,hbb2,z0,z1,z2,z3,z4⟩:=ItemsAt.item HM.out hb (k:=k) (by omega)
     have hl2:k < M.length:=by omega
     have H1:=hide (take_ne hlt hl2)
     have H2:=hide (take_on hlt hl2 HT.out)
     generalize L[k]=y at *
     generalize M[k]=z at *
     have hq:=run_neq_item y z
     cases hyz:eqI y z
     all_goals
       rw [hyz] at hq
       go_wp2_with fail
       go_quiet (fail)
       go_wp2_with fail
     · go_ret
       exact ⟨by rw [H1.out hyz];rfl,below_drewN hb _⟩
     · go_roundw
       case rel=>exact ⟨k+1,by go_num,by omega,below_drewN hb _,H2.out hyz⟩
       case measure=>simp [intOf];omega
   · have HE:=hide (take_eq HLen.out (by omega) HT.out)
     go_wp2_with fail
     go_ret
     exact ⟨by rw [HE.out];rfl,hb⟩
end Go.Proofs.YtgmkckjedngkdaaGreatDoor
