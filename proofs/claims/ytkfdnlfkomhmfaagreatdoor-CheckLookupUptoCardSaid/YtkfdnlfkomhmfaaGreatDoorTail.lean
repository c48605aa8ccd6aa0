/- A region that draws its order: its first operations only read, what stands behind them comes in the text's order. -/
import Derived.Test.YtkfdnlfkomhmfaaGreatDoorLater
import Derived.StillTailTactics
namespace Go.Proofs.YtkfdnlfkomhmfaaGreatDoor
open Go.RowKit

theorem still_of_quiet {P : Program} {ops : Array Oper} {W : World} {Q : Act → Prop} : ∀ (l : List Oper) (a : Act), wpQuiet P ops (fun w' => w' = W) Q l a → wpStill P ops W Q l a
  | [], _, h => h
  | o :: l, a, h => by
    unfold wpQuiet at h
    unfold wpStill
    split
    · next hw =>
      rw [if_pos hw] at h
      obtain ⟨v, h1, h2⟩ := h
      have h3 := h1 W rfl
      have h4 := still_of_quiet l _ h2
      unfold Oper.quietAt at h3
      unfold Oper.still
      generalize (execOp a.eval o).run P W = r at *
      cases r with
      | ok n w' =>
        cases n <;> simp only [Oper.quietUpon] at h3 <;> simp only [Oper.stillUpon]
        case value u => obtain ⟨e1, e2⟩ := h3; subst e2; exact ⟨e1, h4⟩
        case skip => obtain ⟨e1, e2⟩ := h3; subst e2; exact ⟨e1, h4⟩
        case enter f args => exact ⟨h3.1, v, h3.2, h4⟩
      | halt x w' => exact h3.elim
    · next hw =>
      rw [if_neg hw] at h
      exact still_of_quiet l _ h
theorem wp_region_tailq {id : Nat} {Q : Exit → Act → World → Prop} {a : Act} {w : World} {l : List Oper} (n : Nat) (hm : Tryz.prog.follows .mixedOrders = true) (hB : Region.lexTailB .any l.toArray n = true)
    (h : wpQuiet Tryz.prog l.toArray (fun w' => w' = w.drew) (fun a' => wpList Tryz.prog l.toArray Q (l.drop n) a' w.drew) (l.take n) a) : (Code.region id l.toArray true).wp Tryz.prog Q a w :=
  wp_region_still_tail n hm hB (still_of_quiet _ _ h)
end Go.Proofs.YtkfdnlfkomhmfaaGreatDoor
