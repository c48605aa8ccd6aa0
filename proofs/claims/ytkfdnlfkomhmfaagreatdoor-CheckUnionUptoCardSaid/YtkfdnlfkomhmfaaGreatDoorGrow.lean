/- slices.Grow at strings: the shelf's contract, laid at this dump. -/
import Derived.Shelf.Spec.SlicesGrow
import Derived.Test.YtkfdnlfkomhmfaaGreatDoorLays
import Derived.Test.YtkfdnlfkomhmfaaGreatDoorApp
import Derived.Test.YtkfdnlfkomhmfaaGreatDoorIdent
namespace Go.Proofs.YtkfdnlfkomhmfaaGreatDoor
open Go.RowKit Go.Lib
set_option linter.unusedVariables false
set_option linter.unusedSimpArgs false
theorem GrowS_any (n : Nat) (w : World) (h : n ≤ 2097152) : Calls Tryz.prog 107 #[.slice none 0 0, .int .i64 n] w fun e w' => ∃ v, e = .returned v ∧ OwnAt strCells 1 9 w.heap.size w' v ([] : List ByteArray) ∧ Below w.heap.size w w' := by
  by_cases h0 : n = 0
  · subst h0
    exact (Any8.slices_Grow_room Tryz.growS none 0 0 0 w (by omega) (by omega) (by omega) (by omega)).mono fun e w' ⟨he, hw⟩ => ⟨_, he, by rw [hw]; exact OwnAt.nil _ _ _ _ _, by rw [hw]; exact Below.refl _ _⟩
  · have hi : ∃ i, Tryz.prog.info? 9 = some i ∧ i.zero = some (.string ⟨#[]⟩) ∧ i.size = 1 ∧ i.bytes = 16 := info_parts infoStr
    obtain ⟨i, hi, hz, hs, hb⟩ := hi
    refine (Any8.slices_Grow_grow Tryz.growS i (.string ⟨#[]⟩) hi hz (by omega) none 0 0 n [] w (by omega) (by omega) (by rw [hb]; omega) (by omega) (by simp) (fun _ => rfl) (fun a ha => by cases ha)).mono ?_
    rintro e w' ⟨rfl, rfl⟩
    refine ⟨_, rfl, ?_, (Below.refl _ _).drew.alloc (Nat.le_refl _) _⟩
    have hge := grownCap_ge w (0 + n) 0 9
    have hle := grownCap_le_maxLen w (0 + n) 0 9 (by unfold maxLen; omega)
    refine ⟨rfl, .inr ⟨w.heap.size, grownCap w (0 + n) 0 9, _, rfl, Nat.le_refl _, heap_alloc_new w.drew _, Nat.zero_le _, hle, ?_, by simp⟩⟩
    rw [show Tryz.growS_ren.t 25 = 9 from rfl]
    rw [Nat.zero_add] at hge
    simp [size_zeroCells, Value.cells]
    omega
end Go.Proofs.YtkfdnlfkomhmfaaGreatDoor
