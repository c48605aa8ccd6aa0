/- A block of the call's own, whole. -/
import Derived.Test.YtkfdnlfkomhmfaaGreatDoorMore
import Derived.Test.YtkfdnlfkomhmfaaGreatDoorOwn
namespace Go.Proofs.YtkfdnlfkomhmfaaGreatDoor
open Go.RowKit
set_option linter.unusedVariables false
set_option linter.unusedSimpArgs false

def Blk (w : World) (k : Nat) (cs : Array Value) (T : TypeId) : Prop := w.heap[k]? = some (.cells cs T)
theorem Blk.new (w : World) (cs : Array Value) (T : TypeId) : Blk (w.alloc (.cells cs T)) w.heap.size cs T := heap_alloc_new w _
theorem Blk.lt {w : World} {k : Nat} {cs : Array Value} {T : TypeId} (h : Blk w k cs T) : k < w.heap.size := (Array.getElem?_eq_some_iff.1 h).1
theorem Blk.later {w w' : World} {k : Nat} {cs : Array Value} {T : TypeId} (h : Blk w k cs T) (hb : Below w.heap.size w w') : Blk w' k cs T := (hb.block k h.lt).trans h
theorem Blk.past {w : World} {k : Nat} {cs : Array Value} {T : TypeId} (h : Blk w k cs T) (o : Obj) : Blk (w.alloc o) k cs T := h.later ((Below.refl _ _).alloc (Nat.le_refl _) o)
theorem Blk.cell {w : World} {k : Nat} {cs : Array Value} {T : TypeId} (h : Blk w k cs T) (o : Nat) {v : Value} (hv : cs[o]? = some v) : w.cell? ⟨k, o, none⟩ = some v := by
  unfold Blk at h
  simp [World.cell?, h, hv]
theorem Blk.froz {w : World} {k : Nat} {cs : Array Value} {T : TypeId} (h : Blk w k cs T) (o : Nat) : w.frozen? ⟨k, o, none⟩ = false := by
  unfold Blk at h
  simp [World.frozen?, h]

theorem Blk.two (w : World) (cs : Array Value) (T : TypeId) (ds : Array Value) (D : TypeId) : Blk ((w.alloc (.cells cs T)).alloc (.cells ds D)) w.heap.size cs T ∧ Blk ((w.alloc (.cells cs T)).alloc (.cells ds D)) (w.heap.size + 1) ds D :=
  ⟨(Blk.new w cs T).past _, by have := Blk.new (w.alloc (.cells cs T)) ds D; simpa using this⟩
theorem below_two (w : World) (o o' : Obj) : Below w.heap.size w ((w.alloc o).alloc o') := ((Below.refl _ _).alloc (Nat.le_refl _) o).alloc (by simp) o'
end Go.Proofs.YtkfdnlfkomhmfaaGreatDoor
