/- A part of the proof that TopMajorityLaw holds: XItem. Conditions: as typed. -/
import Derived.Test.YtgmkckjedngkdaaGreatDoorTm04
set_option linter.unusedVariables false
set_option linter.unusedSimpArgs false
namespace Go.Proofs.YtgmkckjedngkdaaGreatDoor
open Go.ChangeShapes Go.WideShapes Go.ChangeAt Go.RowKit
set_option maxHeartbeats 1600000 in
theorem pless_any (a b:It) (w:World):Calls Tryz.prog 137 #[a.val,b.val] w fun e w'=>e=.returned (.bool (ltB a b))∧Below w.heap.size w w':=by
 obtain ⟨a0,a1,a2,a3,a4⟩:=a
 obtain ⟨b0,b1,b2,b3,b4⟩:=b
 by_cases h0:a0 < b0
 case pos =>
  first | rw [show ltB _ _=true from decide_eq_true (by dsimp only [It.lt];omega)] | rw [show ltB _ _=false from decide_eq_false (by dsimp only [It.lt];omega)]
  go_enter Tryz.func137,Tryz.ntmps137
  go_wp2
  go_returns
  exact ⟨by simp;try omega,by go_grown⟩
 by_cases h1:b0 < a0
 case pos =>
  first | rw [show ltB _ _=true from decide_eq_true (by dsimp only [It.lt];omega)] | rw [show ltB _ _=false from decide_eq_false (by dsimp only [It.lt];omega)]
  go_enter Tryz.func137,Tryz.ntmps137
  go_wp2
  go_returns
  exact ⟨by simp;try omega,by go_grown⟩
 by_cases h2:a1 < b1
 case pos =>
  first | rw [show ltB _ _=true from decide_eq_true (by dsimp only [It.lt];omega)] | rw [show ltB _ _=false from decide_eq_false (by dsimp only [It.lt];omega)]
  go_enter Tryz.func137,Tryz.ntmps137
  go_wp2
  go_returns
  exact ⟨by simp;try omega,by go_grown⟩
 by_cases h3:b1 < a1
 case pos =>
  first | rw [show ltB _ _=true from decide_eq_true (by dsimp only [It.lt];omega)] | rw [show ltB _ _=false from decide_eq_false (by dsimp only [It.lt];omega)]
  go_enter Tryz.func137,Tryz.ntmps137
  go_wp2
  go_returns
  exact ⟨by simp;try omega,by go_grown⟩
 by_cases h4:a2 < b2
 case pos =>
  first | rw [show ltB _ _=true from decide_eq_true (by dsimp only [It.lt];omega)] | rw [show ltB _ _=false from decide_eq_false (by dsimp only [It.lt];omega)]
  go_enter Tryz.func137,Tryz.ntmps137
  go_wp2
  go_returns
  exact ⟨by simp;try omega,by go_grown⟩
 first | rw [show ltB _ _=true from decide_eq_true (by dsimp only [It.lt];omega)] | rw [show ltB _ _=false from decide_eq_false (by dsimp only [It.lt];omega)]
 go_enter Tryz.func137,Tryz.ntmps137
 go_wp2
 go_returns
 exact ⟨by simp;try omega,by go_grown⟩
set_option maxHeartbeats 1600000 in
theorem pwins_any (a b:It) (w:World):Calls Tryz.prog 140 #[a.val,b.val] w fun e w'=>e=.returned (.bool (winsB a b))∧Below w.heap.size w w':=by
 obtain ⟨a0,a1,a2,a3,a4⟩:=a
 obtain ⟨b0,b1,b2,b3,b4⟩:=b
 by_cases h0:b3 < a3
 case pos =>
  first | rw [show winsB _ _=true from decide_eq_true (by dsimp only [It.wins];omega)] | rw [show winsB _ _=false from decide_eq_false (by dsimp only [It.wins];omega)]
  go_enter Tryz.func140,Tryz.ntmps140
  go_wp2
  go_returns
  exact ⟨by simp;try omega,by go_grown⟩
 by_cases h1:a3 < b3
 case pos =>
  first | rw [show winsB _ _=true from decide_eq_true (by dsimp only [It.wins];omega)] | rw [show winsB _ _=false from decide_eq_false (by dsimp only [It.wins];omega)]
  go_enter Tryz.func140,Tryz.ntmps140
  go_wp2
  go_returns
  exact ⟨by simp;try omega,by go_grown⟩
 by_cases h2:b4 < a4
 case pos =>
  first | rw [show winsB _ _=true from decide_eq_true (by dsimp only [It.wins];omega)] | rw [show winsB _ _=false from decide_eq_false (by dsimp only [It.wins];omega)]
  go_enter Tryz.func140,Tryz.ntmps140
  go_wp2
  go_returns
  exact ⟨by simp;try omega,by go_grown⟩
 first | rw [show winsB _ _=true from decide_eq_true (by dsimp only [It.wins];omega)] | rw [show winsB _ _=false from decide_eq_false (by dsimp only [It.wins];omega)]
 go_enter Tryz.func140,Tryz.ntmps140
 go_wp2
 go_returns
 exact ⟨by simp;try omega,by go_grown⟩
set_option maxHeartbeats 1600000 in
theorem phides_any (a b:It) (w:World):Calls Tryz.prog 216 #[a.val,b.val] w fun e w'=>e=.returned (.bool (hidesB a b))∧Below w.heap.size w w':=by
 obtain ⟨a0,a1,a2,a3,a4⟩:=a
 obtain ⟨b0,b1,b2,b3,b4⟩:=b
 by_cases h0:a1 ≠ 1
 case pos =>
  first | rw [show hidesB _ _=true from decide_eq_true (by dsimp only [It.hides];omega)] | rw [show hidesB _ _=false from decide_eq_false (by dsimp only [It.hides];omega)]
  go_enter Tryz.func216,Tryz.ntmps216
  go_wp2
  go_returns
  exact ⟨by simp;try omega,by go_grown⟩
 by_cases h1:b1 ≠ 2
 case pos =>
  first | rw [show hidesB _ _=true from decide_eq_true (by dsimp only [It.hides];omega)] | rw [show hidesB _ _=false from decide_eq_false (by dsimp only [It.hides];omega)]
  go_enter Tryz.func216,Tryz.ntmps216
  go_wp2
  go_returns
  exact ⟨by simp;try omega,by go_grown⟩
 by_cases h2:a0 ≠ b0
 case pos =>
  first | rw [show hidesB _ _=true from decide_eq_true (by dsimp only [It.hides];omega)] | rw [show hidesB _ _=false from decide_eq_false (by dsimp only [It.hides];omega)]
  go_enter Tryz.func216,Tryz.ntmps216
  go_wp2
  go_returns
  exact ⟨by simp;try omega,by go_grown⟩
 by_cases h3:a3 < b3
 case pos =>
  first | rw [show hidesB _ _=true from decide_eq_true (by dsimp only [It.hides];omega)] | rw [show hidesB _ _=false from decide_eq_false (by dsimp only [It.hides];omega)]
  go_enter Tryz.func216,Tryz.ntmps216
  go_wp2
  go_returns
  exact ⟨by simp;try omega,by go_grown⟩
 first | rw [show hidesB _ _=true from decide_eq_true (by dsimp only [It.hides];omega)] | rw [show hidesB _ _=false from decide_eq_false (by dsimp only [It.hides];omega)]
 go_enter Tryz.func216,Tryz.ntmps216
 go_wp2
 go_returns
 exact ⟨by simp;try omega,by go_grown⟩
set_option maxHeartbeats 3200000 in
theorem pgood_any (a:It) (w:World):Calls Tryz.prog 143 #[a.val] w fun e w'=>e=.returned (.bool (goodB a))∧Below w.heap.size w w':=by
 obtain ⟨a0,a1,a2,a3,a4⟩:=a
 by_cases h0:a0 < 0
 case pos =>
  first | rw [show goodB _=true from decide_eq_true (by dsimp only [It.good];omega)] | rw [show goodB _=false from decide_eq_false (by dsimp only [It.good];omega)]
  go_enter Tryz.func143,Tryz.ntmps143
  go_wp2
  go_returns
  exact ⟨by simp;try omega,by go_grown⟩
 by_cases h1:255 < a0
 case pos =>
  first | rw [show goodB _=true from decide_eq_true (by dsimp only [It.good];omega)] | rw [show goodB _=false from decide_eq_false (by dsimp only [It.good];omega)]
  go_enter Tryz.func143,Tryz.ntmps143
  go_wp2
  go_returns
  exact ⟨by simp;try omega,by go_grown⟩
 by_cases h2:a3 < 1
 case pos =>
  first | rw [show goodB _=true from decide_eq_true (by dsimp only [It.good];omega)] | rw [show goodB _=false from decide_eq_false (by dsimp only [It.good];omega)]
  go_enter Tryz.func143,Tryz.ntmps143
  go_wp2
  go_returns
  exact ⟨by simp;try omega,by go_grown⟩
 by_cases h3:281474976710656 < a3
 case pos =>
  first | rw [show goodB _=true from decide_eq_true (by dsimp only [It.good];omega)] | rw [show goodB _=false from decide_eq_false (by dsimp only [It.good];omega)]
  go_enter Tryz.func143,Tryz.ntmps143
  go_wp2
  go_returns
  exact ⟨by simp;try omega,by go_grown⟩
 by_cases k1:a1=1
 case pos =>
  subst k1
  by_cases g0:a2 ≠ 0
  case pos =>
   first | rw [show goodB _=true from decide_eq_true (by dsimp only [It.good];omega)] | rw [show goodB _=false from decide_eq_false (by dsimp only [It.good];omega)]
   go_enter Tryz.func143,Tryz.ntmps143
   go_wp2
   go_returns
   exact ⟨by simp;try omega,by go_grown⟩
  by_cases g1:a4 ≠ 0
  case pos =>
   first | rw [show goodB _=true from decide_eq_true (by dsimp only [It.good];omega)] | rw [show goodB _=false from decide_eq_false (by dsimp only [It.good];omega)]
   go_enter Tryz.func143,Tryz.ntmps143
   go_wp2
   go_returns
   exact ⟨by simp;try omega,by go_grown⟩
  obtain rfl:a2=0:=by omega
  obtain rfl:a4=0:=by omega
  first | rw [show goodB _=true from decide_eq_true (by dsimp only [It.good];omega)] | rw [show goodB _=false from decide_eq_false (by dsimp only [It.good];omega)]
  go_enter Tryz.func143,Tryz.ntmps143
  go_wp2
  go_returns
  exact ⟨by simp;try omega,by go_grown⟩
 by_cases k2:a1=2
 case pos =>
  subst k2
  by_cases g2:1099511627776 < a2
  case pos =>
   first | rw [show goodB _=true from decide_eq_true (by dsimp only [It.good];omega)] | rw [show goodB _=false from decide_eq_false (by dsimp only [It.good];omega)]
   go_enter Tryz.func143,Tryz.ntmps143
   go_wp2
   go_returns
   exact ⟨by simp;try omega,by go_grown⟩
  first | rw [show goodB _=true from decide_eq_true (by dsimp only [It.good];omega)] | rw [show goodB _=false from decide_eq_false (by dsimp only [It.good];omega)]
  go_enter Tryz.func143,Tryz.ntmps143
  go_wp2
  go_returns
  exact ⟨by simp;try omega,by go_grown⟩
 first | rw [show goodB _=true from decide_eq_true (by dsimp only [It.good];omega)] | rw [show goodB _=false from decide_eq_false (by dsimp only [It.good];omega)]
 go_enter Tryz.func143,Tryz.ntmps143
 go_wp2
 go_returns
 exact ⟨by simp;try omega,by go_grown⟩
theorem sameB_eq (a b:It):sameB a b=(!ltB a b && !ltB b a):=by
 rw [Bool.eq_iff_iff]
 simp only [sameB,ltB,Bool.and_eq_true,Bool.not_eq_true',decide_eq_true_eq,decide_eq_false_iff_not]
 unfold It.same It.lt
 omega
set_option maxHeartbeats 800000 in
theorem psame_any (a b:It) (w:World):Calls Tryz.prog 139 #[a.val,b.val] w fun e w'=>e=.returned (.bool (sameB a b))∧Below w.heap.size w w':=by
 have h1:=fun W=>pless_any a b W
 have h2:=fun W=>pless_any b a W
 rw [sameB_eq]
 obtain ⟨a0,a1,a2,a3,a4⟩:=a
 obtain ⟨b0,b1,b2,b3,b4⟩:=b
 generalize ltB _ _=x at *
 generalize ltB _ _=y at *
 have H1:=hide h1
 have H2:=hide h2
 clear h1 h2
 cases x <;> cases y
 all_goals
  go_enter Tryz.func139,Tryz.ntmps139
  go_wp2_with (first
   | ((with_reducible refine (H1.out _).mono ?_);rintro e w1 ⟨rfl,hg1⟩;obtain ⟨hc1,hf1⟩:=bcell hg1;have z0:w.heap.size < w1.heap.size:=(by have hh:=hg1.size;(try simp at hh);omega);have z1:w.heap.size+1 < w1.heap.size:=(by have hh:=hg1.size;(try simp at hh);omega))
   | ((with_reducible refine (H2.out _).mono ?_);rintro e w2 ⟨rfl,hg2⟩))
  go_returns
  exact ⟨by rfl,by repeat' (first | exact Below.refl _ _ | refine below_alloc ?_ _ | refine below_step ?_ (by assumption))⟩
end Go.Proofs.YtgmkckjedngkdaaGreatDoor
