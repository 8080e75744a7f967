/- A part of the proof that TopQuotaLaw holds: XZDskA, XZDskB. Conditions: as typed. -/
import Derived.Test.YtgmkckjedngkdaaGreatDoorTq11
set_option linter.unusedVariables false
set_option linter.unusedSimpArgs false
namespace Go.Proofs.YtgmkckjedngkdaaGreatDoor
open Go.ChangeShapes Go.WideShapes Go.ChangeAt Go.RowKit
def namedC (c:Nat):Bool:=(decide (97≤c) && decide (c≤122)) || (decide (48≤c) && decide (c≤57)) || decide (c=46)
def namedB (s:ByteArray):Bool:=decide (1≤s.size) && decide (s.size≤16) && s.data.toList.all (fun c=>namedC c.toNat)
theorem namedB_at {s:ByteArray} (h:namedB s=true):1≤s.size∧s.size≤16∧∀ k (hk:k < s.size),(97≤(s[k]'hk).toNat∧(s[k]'hk).toNat≤122) ∨ (48≤(s[k]'hk).toNat∧(s[k]'hk).toNat≤57) ∨ (s[k]'hk).toNat=46:=by
 unfold namedB at h
 rw [Bool.and_eq_true,Bool.and_eq_true,decide_eq_true_iff,decide_eq_true_iff,List.all_eq_true] at h
 refine ⟨h.1.1,h.1.2,fun k hk=>?_⟩
 have h2:=h.2 (s[k]'hk) (by
   have hs:s.data[k]'hk ∈ s.data.toList:=by
     rw [Array.mem_toList_iff];exact Array.getElem_mem hk
   exact hs)
 simp only [namedC,Bool.or_eq_true,Bool.and_eq_true,decide_eq_true_eq] at h2
 omega
theorem index_str {P:Program} {t:TypeId} (ht:P.underlying t=some .string) (s:ByteArray) (k:Nat) (hk:k < s.size) (w:World):(Instr.index t (.string s) (.int .i64 k)).run P w=.ok (.int .u8 (s[k]'hk).toNat) w:=by
 have h1:0≤(k:Int)∧(k:Int) < s.size:=by omega
 rw [run_index_string w t s .i64 k ht,dif_pos h1]
 rfl
set_option maxRecDepth 100000 in
set_option maxHeartbeats 800000 in
theorem named_yes (s:ByteArray) (w:World) (h:namedB s=true):Calls Tryz.prog 187 #[.string s] w fun e w'=>e=.returned (.bool true)∧w'=w:=by
 obtain ⟨h1,h2,h3⟩:=namedB_at h
 have i1:¬ (s.size:Int) < 1:=by omega
 have i2:¬ 16 < (s.size:Int):=by omega
 have H3:=hide h3
 clear h h3
 go_enter Tryz.func187,Tryz.ntmps187
 go_wp2_with fail
 go_loopw [15] (fun i wr=>∃ k:Nat,k≤s.size∧i=.int .i64 k∧wr=w) (fun i _=>s.size - (intOf i).toNat)
 case atStart=>exact ⟨0,by omega,rfl,rfl⟩
 case round =>
   obtain ⟨k,hk,rfl,rfl⟩:=hrel
   by_cases hlt:k < s.size
   · have h4:=H3.out k hlt
     have hltI:(k:Int) < s.size:=by omega
     have hix:=index_str Tryz.underlying9 s k hlt wr
     generalize (s[k]'hlt).toNat=c at *
     have HI:=hide hix
     rcases h4 with ⟨h5,h6⟩ | ⟨h5,h6⟩ | h5
     · have j1:¬ (c:Int) < 97:=by omega
       have j2:¬ 122 < (c:Int):=by omega
       go_wp2_with fail
       go_roundw
       case rel=>exact ⟨k+1,by omega,by go_num,trivial⟩
       case measure=>simp [intOf];omega
     · have j1:(c:Int) < 97:=by omega
       have j2:¬ (c:Int) < 48:=by omega
       have j3:¬ 57 < (c:Int):=by omega
       go_wp2_with fail
       go_roundw
       case rel=>exact ⟨k+1,by omega,by go_num,trivial⟩
       case measure=>simp [intOf];omega
     · subst h5
       go_wp2_with fail
       go_roundw
       case rel=>exact ⟨k+1,by omega,by go_num,trivial⟩
       case measure=>simp [intOf];omega
   · have hltI:¬ (k:Int) < s.size:=by omega
     go_wp2_with fail
     go_ret
     exact ⟨rfl,rfl⟩
theorem iaddw_any (b o:Nat) (n y s:Int) (w:World) (h:w.cell? ⟨b,o,none⟩=some (.int .i64 n)) (hz:w.frozen? ⟨b,o,none⟩=false) (hs:IntKind.i64.wrap (n+y)=s) :
   Calls Tryz.prog 229 #[.pointer (some ⟨b,o,none⟩),.int .i64 y] w fun e w'=>e=.returned (.int .i64 s)∧w'=w.setCell ⟨b,o,none⟩ (.int .i64 s):=by
 have hadd:=run_call_add (P:=Tryz.prog) Tryz.func284 (by kernel_rfl) (by kernel_rfl) (by kernel_rfl) .i64 (by kernel_rfl) (y:=y) (s:=s) h hz (by simp [go_sem,← hs])
 clear hs
 go_enter Tryz.func229,Tryz.ntmps229
 go_wp2
 go_ret
 exact ⟨rfl,rfl⟩
theorem dead_any (p:Nat) (d:Bool) (w:World) (h:w.cell? ⟨p,6,none⟩=some (.bool d)):Calls Tryz.prog 56 #[ptv p] w fun e w'=>e=.returned (.bool d)∧w'=w:=by
 go_enter Tryz.func56,Tryz.ntmps56
 go_wp2
 go_ret
 exact ⟨rfl,rfl⟩
abbrev strv (s:ByteArray):Value:=.string s
def callE (K:Dk):Int:=if K.dead then 50 else 0
def callD (K:Dk):Dk:=if K.dead then K else if 0 < K.stop then { K with stop:=K.stop - 1,dead:=K.stop - 1 == 0 } else K
theorem callD_Z (K:Dk):(callD K).Z=K.Z:=by unfold callD;split <;> (try split) <;> rfl
theorem callD_D (K:Dk):(callD K).D=K.D:=by unfold callD;split <;> (try split) <;> rfl
theorem callD_q (K:Dk):(callD K).q=K.q:=by unfold callD;split <;> (try split) <;> rfl
set_option maxRecDepth 100000 in
set_option maxHeartbeats 1600000 in
theorem call_any {w:World} {base p:Nat} {X:Nat→Prop} {K:Dk} {h:Dh} (H:DiskV w base p X K h) (A:Option Addr) (c:Nat) (L:List ByteArray) (hL:ValsAt strv w A L) (hl:L.length≤1000) (hn:∀ s ∈ L,namedB s=true) :
   Calls Tryz.prog 191 #[ptv p,.slice A L.length c] w fun e w'=>e=.returned (.int .i64 (callE K))∧(∃ n,DiskV w' base p X (callD K) { h with calls:=n })∧Sets (fun g=>g=p) w w':=by
 obtain ⟨hp,⟨c0,c1,c2,c3,c4,c5,c6,c7,c8⟩,hz⟩:=H.facts
 obtain ⟨nc,hnc⟩:∃ nc,IntKind.i64.wrap (h.calls+1)=nc:=⟨_,rfl⟩
 have hbx:=dk_set 5 (.int .i64 nc) H.box
 have hS0:=sets1 w p 5 (.int .i64 nc)
 have hadd:=iaddw_any p 5 h.calls 1 nc w c5 (hz 5) hnc
 obtain ⟨w1,hw1⟩:∃ w1,w.setCell ⟨p,5,none⟩ (.int .i64 nc)=w1:=⟨_,rfl⟩
 rw [hw1] at hbx hS0 hadd
 have H1:DiskV w1 base p X K { h with calls:=nc }:=H.boxed hS0 hbx rfl rfl rfl rfl rfl rfl rfl rfl rfl rfl H.stop0 H.quota
 have HADD:=hide hadd
 have HS0:=hide hS0
 have HH:=hide H1
 have HBX:=hide hbx
 have HST:=hide H.stop0
 obtain ⟨_,⟨_,_,_,_,_,_,d6,d7,d8⟩,dz⟩:=H1.facts
 have HD:=hide (dead_any p K.dead w1 d6)
 have hp1:p < w1.heap.size:=Nat.lt_of_lt_of_le hp hS0.size
 have hnn:=hn
 clear hw1 hnc hadd
 have HN:=hide (fun k hk=>named_yes L[k] w (hnn _ (List.getElem_mem hk)))
 have hz7:=dz 7
 have hz6:=dz 6
 clear hbx hS0 H1 c0 c1 c2 c3 c4 c5 c6 c7 c8 hz hn hnn H dz
 go_enter Tryz.func191,Tryz.ntmps191
 go_wp2_with fail
 go_loopw [9] (fun i wr=>∃ k:Nat,k≤L.length∧i=.int .i64 k∧wr=w) (fun i _=>L.length - (intOf i).toNat)
 case atStart=>exact ⟨0,by omega,rfl,rfl⟩
 case round =>
   obtain ⟨k,hk,rfl,rfl⟩:=hrel
   by_cases hlt:k < L.length
   · obtain ⟨b,off,rfl,hbb,d0⟩:=RowAt.one hL (Below.refl _ _) hlt
     have hltI:(k:Int) < L.length:=by omega
     have h1:=HN.out k hlt
     have HN1:=hide h1
     clear h1 HN
     generalize L[k]'hlt=s at *
     go_wp2_with ((with_reducible refine (HN1.out).mono ?_);rintro e w1 ⟨rfl,rfl⟩)
     go_roundw
     case rel=>exact ⟨k+1,by omega,by go_num,trivial⟩
     case measure=>simp [intOf];omega
   · have hltI:¬ (k:Int) < (L.length:Int):=by omega
     clear HN
     cases hd:K.dead with
     | true =>
       rw [hd] at HD
       have HE:=hide (show callE K=50 by unfold callE;rw [hd];rfl)
       have HK:=hide (show callD K=K by unfold callD;rw [hd];rfl)
       clear hd
       go_wp2_with (first | ((with_reducible refine (HADD.out).mono ?_);rintro e w2 ⟨rfl,rfl⟩) | ((with_reducible refine (HD.out).mono ?_);rintro e w3 ⟨rfl,rfl⟩))
       go_ret
       exact ⟨by rw [HE.out];rfl,⟨nc,by rw [HK.out];exact HH.out⟩,HS0.out⟩
     | false =>
       rw [hd] at HD
       have HE:=hide (show callE K=0 by unfold callE;rw [hd];rfl)
       by_cases h0:0 < K.stop
       · have hwe:wrap64 (K.stop - 1)=K.stop - 1:=by have:=HST.out;unfold wrap64;omega
         have HK:=hide (show callD K={ K with stop:=wrap64 (K.stop - 1),dead:=wrap64 (K.stop - 1) == 0 } by unfold callD;rw [hd,if_pos h0,hwe];rfl)
         have HS1:=hide (show 0≤wrap64 (K.stop - 1)∧wrap64 (K.stop - 1)≤9223372036854775807 by have:=HST.out;rw [hwe];omega)
         clear hd hwe
         go_wp2_with (first | ((with_reducible refine (HADD.out).mono ?_);rintro e w2 ⟨rfl,rfl⟩) | ((with_reducible refine (HD.out).mono ?_);rintro e w3 ⟨rfl,rfl⟩))
         go_ret
         have hb2:=dk_set 6 (.bool (wrap64 (K.stop - 1) == 0)) (dk_set 7 (.int .i64 (wrap64 (K.stop - 1))) HBX.out)
         have hS2:Sets (fun g=>g=p) w3 ((w3.setCell ⟨p,7,none⟩ (.int .i64 (wrap64 (K.stop - 1)))).setCell ⟨p,6,none⟩ (.bool (wrap64 (K.stop - 1) == 0))):=(sets1 w3 p 7 _).set (fun _=>rfl) _ _
         refine ⟨by rw [HE.out];rfl,⟨nc,?_⟩,HS0.out.trans hS2 (fun _ _ h=>h)⟩
         rw [HK.out]
         exact HH.out.boxed hS2 hb2 rfl rfl rfl rfl rfl rfl rfl rfl rfl rfl HS1.out HH.out.quota
       · have HK:=hide (show callD K=K by unfold callD;rw [hd,if_neg h0];rfl)
         clear hd
         go_wp2_with (first | ((with_reducible refine (HADD.out).mono ?_);rintro e w2 ⟨rfl,rfl⟩) | ((with_reducible refine (HD.out).mono ?_);rintro e w3 ⟨rfl,rfl⟩))
         go_ret
         exact ⟨by rw [HE.out];rfl,⟨nc,by rw [HK.out];exact HH.out⟩,HS0.out⟩
abbrev nkey (s:ByteArray):Lit:=.string s.data.toList
def hitN (D:DataW Unit) (s:ByteArray) (i:Nat):Prop:=Maps.has D (nkey s)=true∧∀ z,D.atKey (nkey s) z=.lit (.int .i64 i)
def missN (D:DataW Unit) (s:ByteArray):Prop:=Maps.has D (nkey s)=false
theorem keyS:Maps.Keyed Tryz.prog 9:=Maps.string_keyed Tryz.underlying9
theorem zeroI (w:World):(zeroValue 3).run Tryz.prog w=.ok (.int .i64 0) w:=by kernel_rfl
theorem names_look {w:World} {b n:Nat} {D:DataW Unit} (h:NamesAt w b n D) {s:ByteArray} (hs:s.size≤maxLen) (i:Int) (x:Bool) (h1:Maps.has D (nkey s)=x) (h2:D.atKey (nkey s) (.lit (.int .i64 0))=.lit (.int .i64 i)) :
   (Instr.lookup 61 (.map (some b)) (.string s) true).run Tryz.prog w=.ok (.tuple #[.int .i64 i,.bool x]) w:=by
 obtain ⟨v,ps,hrun,hv⟩:=World.ownsMap.look_ok h keyS Tryz.underlying61 (zeroI w) (plainElem_int Tryz.underlying3 (by decide)) (Go.WideMaps.keyOf_string_mk Tryz.underlying9 hs)
 obtain ⟨c,rfl,hc,_⟩:=plainElem_int_inv Tryz.underlying3 hv
 rw [h2] at hc
 simp at hc
 rw [hrun,h1,hc.1]
theorem namedB_size {s:ByteArray} (h:namedB s=true):s.size≤maxLen:=by
 have:=(namedB_at h).2.1
 unfold maxLen
 omega
set_option maxRecDepth 100000 in
theorem find_hit_D {w:World} {base p:Nat} {X:Nat→Prop} {K:Dk} {h:Dh} (H:DiskV w base p X K h) (s:ByteArray) (hs:s.size≤maxLen) (i:Nat) (hi:i < K.Z.length) (hh:hitN K.D s i) :
   Calls Tryz.prog 188 #[ptv p,.string s] w fun e w'=>e=.returned (ptv (K.Z[i]'hi).g)∧w'=w:=by
 obtain ⟨hp,⟨_,c1,c2,_⟩,_⟩:=H.facts
 have hlk:=names_look H.names hs i true hh.1 (hh.2 _)
 obtain ⟨A,cc,hv,hr,_⟩:=OwnL.row (cells:=one1 ptv) (sz:=1) (fun _=>rfl) H.files
 rw [List.length_map] at hv
 rw [hv] at c1
 obtain ⟨b,off,rfl,hb,d0⟩:=RowAt.one hr (Below.refl _ _) (k:=i) (by simpa using hi)
 rw [List.getElem_map] at d0
 have hiI:(i:Int) < K.Z.length:=by omega
 clear H hh hv hr
 generalize (K.Z[i]'hi).g=g at *
 go_enter Tryz.func188,Tryz.ntmps188
 go_wp2_with fail
 go_ret
 exact ⟨rfl,rfl⟩
set_option maxRecDepth 100000 in
theorem find_miss_D {w:World} {base p:Nat} {X:Nat→Prop} {K:Dk} {h:Dh} (H:DiskV w base p X K h) (s:ByteArray) (hs:s.size≤maxLen) (hh:missN K.D s) :
   Calls Tryz.prog 188 #[ptv p,.string s] w fun e w'=>e=.returned (.pointer none)∧w'=w:=by
 obtain ⟨hp,⟨_,c1,c2,_⟩,_⟩:=H.facts
 have hlk:=names_look H.names hs 0 false hh (Maps.atKey_of_not_has hh _)
 clear H hh
 go_enter Tryz.func188,Tryz.ntmps188
 go_wp2_with fail
 go_ret
 exact ⟨rfl,rfl⟩
end Go.Proofs.YtgmkckjedngkdaaGreatDoor
namespace Go.Proofs.YtgmkckjedngkdaaGreatDoor
open Go.ChangeShapes Go.WideShapes Go.ChangeAt Go.RowKit
theorem wpList_next_si {H:Type} {P:Program} (w:World) {ops:Array Oper} {rest:List Oper} {o:Oper} {a:Act} {Q:Exit→Act→World→Prop} (hg:o.guard=none) (it:Operand) (hop:o.op=Op.next it false) (k e:TypeId) (qe:IntKind) (K:Maps.Keyed P k) (hk:P.underlying k=some .string) (he:P.underlying e=some (.int qe))
   (b r n:Nat) (D:DataW H) (left:Lit→Bool) (cnt:Nat) (hit:a.eval it=.pointer (some ⟨r,0,none⟩)) (h:w.ranges P k (plainElem P e) b r n D left cnt)
   (hDone:cnt=0→(∀ kl,left kl=false)→wpList P ops Q rest (a.put o.dst (.tuple #[.bool false])) w)
   (hMore:∀ (x:ByteArray) (c:Int) (w':World) (cnt':Nat),(∀ zd,D.atKey (.string x.data.toList) zd=.lit (.int qe c))→w'.ranges P k (plainElem P e) b r n D (fun z=>left z && !z.sameKey (.string x.data.toList)) cnt'→cnt' < cnt →
     w.grownBy w' (some r)→w'.heap.size=w.heap.size→(Instr.entry (.pointer (some ⟨r,0,none⟩))).run P w'=.ok (.tuple #[.string x,.int qe c]) w'→wpList P ops Q rest (a.put o.dst (.tuple #[.bool true,.string x,.int qe c])) w') :
   wpList P ops Q (o :: rest) a w :=
 wpList_next_ranges w hg it hop k K (plainElem P e) Value.string (Value.int qe) (fun key kl hkey=>by obtain ⟨x,rfl,_⟩:=Go.WideMaps.string_of_keyOf hk hkey;exact ⟨x,rfl⟩) (fun v y hv=>by obtain ⟨c,rfl,_⟩:=plainElem_int_inv he hv;exact ⟨c,rfl⟩)
   b r n D left cnt hit h hDone (fun x c kl y w' cnt' hkey hlk hv hat hrg hlt hgr hsz hen=>by
     obtain ⟨x',ex,rfl,_⟩:=Go.WideMaps.string_of_keyOf hk hkey
     cases ex
     obtain ⟨c',ec,rfl,_⟩:=plainElem_int_inv he hv
     cases ec
     exact hMore x c w' cnt' hat hrg hlt hgr hsz hen)
theorem DiskV.file {w:World} {base p:Nat} {X:Nat→Prop} {K:Dk} {h:Dh} (H:DiskV w base p X K h) {i:Nat} (hi:i < K.Z.length) :
   ∃ A c,(K.Z[i]'hi).v=.slice A (K.Z[i]'hi).L.length c∧ValsAt u8v w A (K.Z[i]'hi).L∧(K.Z[i]'hi).g < w.heap.size∧w.cell? ⟨(K.Z[i]'hi).g,0,none⟩=some (.slice A (K.Z[i]'hi).L.length c)∧w.cell? ⟨(K.Z[i]'hi).g,1,none⟩=some (.int .i64 (K.Z[i]'hi).last)∧(∀ o,w.frozen? ⟨(K.Z[i]'hi).g,o,none⟩=false):=by
 have hz:=H.each _ (List.getElem_mem hi)
 obtain ⟨A,c,hv,hr,_⟩:=OwnL.row (cells:=one1 u8v) (sz:=1) (fun _=>rfl) hz.own
 refine ⟨A,c,hv,hr,(Array.getElem?_eq_some_iff.1 hz.box).1,?_,(cell_of_row w _ 1 _ _ _ hz.box).trans rfl,fun o=>by simp [World.frozen?,hz.box]⟩
 rw [← hv]
 exact (cell_of_row w _ 0 _ _ _ hz.box).trans rfl
theorem DiskV.row {w:World} {base p:Nat} {X:Nat→Prop} {K:Dk} {h:Dh} (H:DiskV w base p X K h):∃ A c,h.vf=.slice A K.Z.length c∧ValsAt ptv w A (K.Z.map Fz.g):=by
 obtain ⟨A,c,hv,hr,_⟩:=OwnL.row (cells:=one1 ptv) (sz:=1) (fun _=>rfl) H.files
 rw [List.length_map] at hv
 exact ⟨A,c,hv,hr⟩
set_option maxRecDepth 100000 in
set_option maxHeartbeats 1600000 in
theorem used_any {w:World} {base p:Nat} {X:Nat→Prop} {K:Dk} {h:Dh} (H:DiskV w base p X K h) (M:Nat) (hM:∀ z ∈ K.Z,z.L.length≤M) (hb:Maps.size K.D * M≤1099511627776) :
   Calls Tryz.prog 283 #[ptv p] w fun e w'=>∃ u:Nat,e=.returned (.int .i64 u)∧u≤Maps.size K.D * M∧Below w.heap.size w w':=by
 obtain ⟨hp,⟨_,c1,c2,_⟩,_⟩:=H.facts
 have HN:=hide H.names
 have HH:=hide H
 have HM:=hide hM
 have HBD:=hide hb
 clear H hM hb
 go_enter Tryz.func283,Tryz.ntmps283
 go_wp2_with (first
   | (at_range;refine wpList_range_own _ rfl _ 61 rfl 9 3 keyS Tryz.underlying61 _ h.bn (Maps.size K.D) _ rfl HN.out ?_;intro w0 hrg0 hg0 hs0)
   | go_in)
 go_frame
 have hb0:Below w.heap.size w w0:=(Below.refl _ w).grown hg0 (Nat.le_refl _) (fun j hj=>by cases hj)
 go_loopw [3,5] (fun n _ wr=>∃ (left:Lit→Bool) (cnt u:Nat),n=.int .i64 u∧wr.ranges Tryz.prog 9 (plainElem Tryz.prog 3) h.bn w.heap.size (Maps.size K.D) K.D left cnt∧cnt≤Maps.size K.D∧u≤(Maps.size K.D - cnt) * M∧Below w.heap.size w wr)
   (fun _ _ wr=>wr.rangeLeft h.bn w.heap.size)
 case atStart=>exact ⟨_,_,0,rfl,hrg0,Nat.le_refl _,by simp,hb0⟩
 case round =>
   clear hrg0 hg0 hs0 hb0 w0
   obtain ⟨left,cnt,u,rfl,hrg,hcs,hu,hnx⟩:=hrel
   go_wp2_with (first
     | (at_next;refine wpList_next_si _ rfl _ rfl 9 3 .i64 keyS Tryz.underlying9 Tryz.underlying3 h.bn w.heap.size (Maps.size K.D) _ _ _ rfl hrg ?_ ?_)
     | go_in)
   · intro hc0 hl0
     subst hc0
     go_wp2
     go_ret
     exact ⟨u,rfl,by simpa using hu,hnx⟩
   · intro x c w1 cnt1 hat hrg1 hlt hg1 hs1 hen
     obtain ⟨i,hi,hy⟩:=HH.out.led _ _ hat
     obtain rfl:c=i:=by injection hy with hy;injection hy
     have hnx1:=hnx.grown hg1 hnx.size (fun j hj=>by cases hj;exact Nat.le_refl _)
     have H1:=HH.out.below hnx1
     obtain ⟨A,cc,hv,hr⟩:=H1.row
     obtain ⟨hp1,⟨_,c1,_⟩,_⟩:=H1.facts
     rw [hv] at c1
     obtain ⟨b,off,rfl,hbb,d0⟩:=RowAt.one hr (Below.refl _ _) (k:=i) (by simpa using hi)
     rw [List.getElem_map] at d0
     obtain ⟨A2,c2,_,_,hg2,d1,_⟩:=H1.file hi
     have hml:=HM.out _ (List.getElem_mem hi)
     have hiI:(i:Int) < K.Z.length:=by omega
     have HU:Hid (u+(K.Z[i]'hi).L.length≤(Maps.size K.D - cnt1) * M∧u+(K.Z[i]'hi).L.length≤1099511627776):=hide (by
       have h2:(Maps.size K.D - cnt+1) * M≤(Maps.size K.D - cnt1) * M:=Nat.mul_le_mul_right _ (by omega)
       have h3:(Maps.size K.D - cnt1) * M≤Maps.size K.D * M:=Nat.mul_le_mul_right _ (by omega)
       have h4:=HBD.out
       rw [Nat.succ_mul] at h2
       omega)
     clear H1 hv hr hml
     generalize (K.Z[i]'hi).L.length=l at *
     generalize (K.Z[i]'hi).g=g at *
     have hwr:wrap64 ((u:Int)+l)=((u+l:Nat):Int):=by have:=HU.out.2;unfold wrap64;omega
     go_wp2_with fail
     go_roundw
     case rel=>exact ⟨_,cnt1,u+l,by rw [hwr],hrg1,by omega,HU.out.1,hnx1⟩
     case measure=>rw [hrg1.left_eq,hrg.left_eq];exact hlt
end Go.Proofs.YtgmkckjedngkdaaGreatDoor
