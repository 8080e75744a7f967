/- Two memories side by side; what many puts come to. Conditions: the memories as they lie. -/
import Derived.Test.YtoejhekmfgkklaaMemO
import Derived.Test.YtoejhekmfgkklaaSkS
import Derived.Test.YtoejhekmfgkklaaApp
namespace Go.Proofs.Ytoejhekmfgkklaa
set_option linter.unusedVariables false
set_option linter.unusedSimpArgs false
open Go.ChangeShapes Go.WideShapes Go.ChangeAt Go.RowKit

theorem puts_top {S W : List It} (h : IsTop S W) (L : List It) : IsTop (L.reverse ++ S) (puts L W) := by
  induction L generalizing S W with
  | nil => exact h
  | cons x L ih =>
    have := ih (skP_top h x)
    rw [List.reverse_cons, List.append_assoc]
    exact this
theorem old_block {w : World} {A : Option Addr} {L : List It} (h : ItemsAt w A L) : ∀ a, A = some a → L ≠ [] → a.block < w.heap.size := fun a ha hn => by
  obtain ⟨b, off, e, hlt, _⟩ := h hn
  rw [ha] at e
  obtain rfl := Option.some.inj e
  exact hlt
/-- Two memories that were made behind w0, apart from each other. -/
structure M2 (w0 w : World) (b p : Nat) (F : List Nd) (n : Int) (b' p' : Nat) (F' : List Nd) (n' : Int) : Prop where
  ax : MO w0 w b p F false n
  ay : MO w0 w b' p' F' false n'
  dis : ∀ c, MBlk b p F c → ¬ MBlk b' p' F' c
theorem M2.swap {w0 w : World} {b p : Nat} {F : List Nd} {n : Int} {b' p' : Nat} {F' : List Nd} {n' : Int} (h : M2 w0 w b p F n b' p' F' n') : M2 w0 w b' p' F' n' b p F n := ⟨h.ay, h.ax, fun c h1 h2 => h.dis c h2 h1⟩
theorem M2.below {w0 w w' : World} {b p : Nat} {F : List Nd} {n : Int} {b' p' : Nat} {F' : List Nd} {n' : Int} (h : M2 w0 w b p F n b' p' F' n') (hb : Below w.heap.size w w') : M2 w0 w' b p F n b' p' F' n' := ⟨h.ax.below hb, h.ay.below hb, h.dis⟩
theorem M2.mk2 {w w1 w2 : World} {b p : Nat} {F : List Nd} {n : Int} {b' p' : Nat} {F' : List Nd} {n' : Int} (h : MO w w1 b p F false n) (k : MO w1 w2 b' p' F' false n') : M2 w w2 b p F n b' p' F' n' :=
  ⟨h.below k.low, ⟨k.at_, fun c hc => Nat.le_trans h.low.size (k.own c hc), below_step h.low k.low⟩, fun c h1 h2 => by
    have := h.at_.lt c h1
    have := k.own c h2
    omega⟩
theorem apply2_any {w0 w : World} {b p : Nat} {F : List Nd} {n : Int} {b' p' : Nat} {F' : List Nd} {n' : Int} (h : M2 w0 w b p F n b' p' F' n') (A : Option Addr) (c : Nat) (L : List It) (hL : ItemsAt w A L) (hw : ∀ x ∈ L, x.wf) (hlen : F.length + L.length ≤ 1099511627776) (hA : ∀ a, A = some a → L ≠ [] → ¬ MBlk b p F a.block) :
    Calls Try.prog 12 #[.pointer (some ⟨b, 0, none⟩), .slice A L.length c] w fun e w' => ∃ F2 n2, e = .returned (.int .i64 (apE false L)) ∧ M2 w0 w' b p F2 n2 b' p' F' n' ∧ itsF F2 = apL false L (itsF F) ∧ F2.length ≤ F.length + L.length ∧ (n2 = if apE false L = 0 then 28 * ((F2.length : Int) - 1) else n) :=
  Calls.mono (apply_mo h.ax A c L hL hw hlen hA) (by
    rintro e w' ⟨F2, n2, rfl, hm, hi, hl, hn, hs, ho⟩
    have hdis : ∀ c, MBlk b' p' F' c → ¬ MBlk b p F c := fun c h1 h2 => h.dis c h2 h1
    have hy : MemAt w' b' p' F' false n' := h.ay.at_.sets hs hdis
    refine ⟨F2, n2, rfl, ⟨hm, ⟨hy, h.ay.own, hm.low⟩, fun c h1 h2 => ?_⟩, hi, hl, hn⟩
    rcases ho c h1 with e | e
    · exact h.dis c e h2
    · have := h.ay.at_.lt c h2
      omega)
theorem MO.notOld' {w0 w : World} {b p : Nat} {F : List Nd} {f : Bool} {n : Int} (h : MO w0 w b p F f n) {A : Option Addr} {L : List It} (hA : ∀ a, A = some a → L ≠ [] → a.block < w0.heap.size) : ∀ a, A = some a → L ≠ [] → ¬ MBlk b p F a.block := fun a ha hn hc => by
  have h1 := hA a ha hn
  have h2 := h.own _ hc
  omega
end Go.Proofs.Ytoejhekmfgkklaa
