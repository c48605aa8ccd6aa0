/- Small laws on cells. -/
import Derived.Test.YtkfdnlfkomhmfaaGreatDoorOpen
namespace Go.Proofs.YtkfdnlfkomhmfaaGreatDoor
open Go.RowKit
theorem Below.fresh {w w1 : World} {cs : Array Value} {t : TypeId} (h : Below (w.alloc (.cells cs t)).heap.size (w.alloc (.cells cs t)) w1) (i : Nat) {v : Value} (hv : cs[i]? = some v) : w1.cell? ⟨w.heap.size, i, none⟩ = some v := by
  rw [h.cell (p := ⟨w.heap.size, i, none⟩) (by simp), World.cell?_alloc_new, hv]
theorem cell_past {w : World} {o : Obj} {b i : Nat} {v : Value} (h : w.cell? ⟨b, i, none⟩ = some v) (hb : b < w.heap.size) : (w.alloc o).cell? ⟨b, i, none⟩ = some v := by
  rw [World.cell?_alloc_past (hn := hb)]; exact h
theorem cell_first {w : World} {cs : Array Value} {t : TypeId} {i : Nat} {v : Value} (hv : cs[i]? = some v) : (w.alloc (.cells cs t)).cell? ⟨w.heap.size, i, none⟩ = some v := by
  rw [World.cell?_alloc_new, hv]
end Go.Proofs.YtkfdnlfkomhmfaaGreatDoor
