/- A region that draws its order, whose operations read and whose callees make memory alone: one walk in the text's order. -/
import Derived.Test.YtkfdnlfkomhmfaaGreatDoorOpen
import Derived.Test.YtkfdnlfkomhmfaaGreatDoorProg
import Derived.BigQuiet
namespace Go.Proofs.YtkfdnlfkomhmfaaGreatDoor
open Go.RowKit

/-- a world in which all that lay in w lies as it lay -/
structure Later (w : World) where
  W : World
  h : Below w.heap.size w W
instance (w : World) : Inhabited (Later w) := ⟨⟨w, Below.refl _ _⟩⟩
theorem Later.cell {w : World} {a : Addr} {v : Value} (h : w.cell? a = some v) (p : Later w) : p.W.cell? a = some v := by
  have hb : a.block < w.heap.size := by
    unfold World.cell? at h
    cases ho : w.heap[a.block]? with
    | none => simp [ho] at h
    | some o => exact (Array.getElem?_eq_some_iff.1 ho).1
  rw [p.h.cell hb]; exact h

theorem wp_region_later {id : Nat} {Q : Exit → Act → World → Prop} {a : Act} {w : World} {l : List Oper} (hm : Tryz.prog.follows .mixedOrders = true) (hB : Region.lexB .any l.toArray = true)
    (h : wpQuiet Tryz.prog l.toArray (fun w' => ∃ p : Later w, w' = p.W) (fun a' => ∀ w', (∃ p : Later w, w' = p.W) → Q .normal a' w') l a) : (Code.region id l.toArray true).wp Tryz.prog Q a w :=
  wp_region_quiet (C := fun w' => ∃ p : Later w, w' = p.W) hm hB ⟨⟨{ w with drawn := w.drawn + 1 }, (Below.refl _ w).drew⟩, rfl⟩ (by simpa using h)

theorem mixed : Tryz.prog.follows .mixedOrders = true := by kernel_rfl

theorem Calls.later {P : Program} {f : FuncId} {args : Array Value} {w : World} {p : Later w} {v : Value}
    (h : Calls P f args p.W fun e w' => e = .returned v ∧ Below p.W.heap.size p.W w') : Calls P f args p.W fun e w'' => e = .returned v ∧ ∃ q : Later w, w'' = q.W :=
  h.mono fun _ w'' ⟨he, hb⟩ => ⟨he, ⟨w'', p.h.trans (hb.mono p.h.size)⟩, rfl⟩
end Go.Proofs.YtkfdnlfkomhmfaaGreatDoor
