/- The list of diagnostics in the checker: Add. -/
import Derived.Test.YtkfdnlfkomhmfaaGreatDoorDiag
namespace Go.Proofs.YtkfdnlfkomhmfaaGreatDoor
open Go.RowKit
set_option linter.unusedVariables false
set_option linter.unusedSimpArgs false

/-- the program's checker: cell 7 the diagnostics, cell 8 the locals -/
abbrev Pk := Ckr Diag.cells 2 49 strCells 1 9 77 7 8

theorem set_self {cs : Array Value} {i : Nat} {v : Value} (h : cs[i]? = some v) : cs.setIfInBounds i v = cs := by
  apply Array.ext_getElem?
  intro k
  by_cases e : k = i
  · subst e; rw [Array.getElem?_setIfInBounds_self_of_lt (Array.getElem?_eq_some_iff.1 h).1, h]
  · rw [Array.getElem?_setIfInBounds_ne (Ne.symm e)]
theorem flat_new {α : Type} [Inhabited α] {f : α → List Value} {sz : Nat} (hf : ∀ x, (f x).length = sz) (E : TypeId) (w : World) (d : α) : FlatAt f sz (w.heap.size + 1) (w.alloc (.cells (f d).toArray E)) (.slice (some ⟨w.heap.size, 0, none⟩) 1 1) [d] := by
  refine ⟨_, 1, rfl, by simp, by omega, by simp, fun _ => ⟨w.heap.size, 0, rfl, by omega, fun i hi => ?_⟩⟩
  have : i = 0 := by simpa using hi
  subst this
  refine ⟨hf _, fun j v hv => ?_⟩
  rw [World.cell?_alloc_new]
  simpa using hv

set_option maxHeartbeats 4000000 in
theorem Add_any {B : Nat} {w : World} {b : Nat} {cs : Array Value} {out : List Diag} {ls : List ByteArray} (h : Pk B w b cs out ls) (d : Diag) (hl : out.length ≤ 1000000) :
    Calls Tryz.prog 111 #[.pointer (some ⟨b, 7, none⟩), .int .i64 d.pos, .string d.text] w fun e w' => e = .returned (.tuple #[]) ∧ (∃ v, Pk B w' b (cs.setIfInBounds 7 v) (addD out d) ls) ∧ Mut 7 8 b w w' := by
  obtain ⟨va, vb, q1, q2, q3, q4, q5, q6, q7⟩ := h.ex
  obtain ⟨oa, cap, rfl, _, _⟩ := q3.slice
  have hlt := h.lt
  have hBw : B ≤ w.heap.size := by have := h.low; omega
  go_enter Tryz.func111, Tryz.ntmps111
  go_upto_region 1 with fail
  have hZ := (Below.refl w.heap.size w).alloc (Nat.le_refl _) (.cells #[.int .i64 d.pos, .string d.text] 49)
  have hA := Blk.new w #[.int .i64 d.pos, .string d.text] 49
  generalize w.alloc (.cells #[.int .i64 d.pos, .string d.text] 49) = Z at hA hZ ⊢
  have hZs := hZ.size
  have hC := h.later hZ
  have c7 : Z.cell? ⟨b, 7, none⟩ = some (.slice oa out.length cap) := hC.cell q1
  have a0 := hA.cell 0 rfl
  have a1 := hA.cell 1 rfl
  have e7 := fun p : Later Z => Later.cell c7 p
  have e0 := fun p : Later Z => Later.cell a0 p
  have e1 := fun p : Later Z => Later.cell a1 p
  have hX := Lib.hid (q3.later hZ |>.flat diag_len (by omega))
  have hXp := fun p : Later Z => SliceAt.lift hX.out p.h
  refine wp_region_later mixed (by kernel_rfl) ?_
  repeat (go_big_quiet_step (exact Calls.later (ContainsD_any _ _ _ _ _ d _ (hXp _) rfl ((‹Later Z›).h.size))))
  refine wpQuiet_nil ?_
  rintro W' ⟨p', hp2⟩
  have hB' : Below Z.heap.size Z W' := hp2 ▸ p'.h
  clear hp2 p' e7 e0 e1 hXp
  have hB's := hB'.size
  have hD := hC.later hB'
  have hm : Mut 7 8 b w W' := Mut.of_below (hZ.trans (hB'.mono hZs)) hlt
  by_cases hd : d ∈ out
  · rw [decide_eq_true hd]
    have HA := Lib.hid (show addD out d = out from if_pos hd)
    clear hd
    go_wp2_with fail
    go_end0
    exact ⟨rfl, ⟨_, by rw [set_self q1, HA.out]; exact hD⟩, hm⟩
  · rw [decide_eq_false hd]
    have HA := Lib.hid (show addD out d = out ++ [d] from if_neg hd)
    clear hd
    go_upto_region 2 with fail
    have a0 := (hA.later hB').cell 0 rfl
    have a1 := (hA.later hB').cell 1 rfl
    have c7 : W'.cell? ⟨b, 7, none⟩ = some (.slice oa out.length cap) := hD.cell q1
    have f7 : W'.frozen? ⟨b, 7, none⟩ = false := hD.froz 7
    have hown := (q3.later hZ).later hB'
    have hlt' := hD.lt

    go_region_law (refine step_appendL rfl _ _ 32 rfl 49 Tryz.underlying32 infoDiag rfl (by decide) (by decide) diag_len diag_one (OwnAt.later hown ((Below.refl _ _).drew.alloc (Nat.le_refl _) _)) rfl rfl (flat_new diag_len _ _ d) (by simp; omega) (by simp; omega) ?_; intro v' w1 hO hg hn; obtain ⟨oa', cap', rfl, _, _⟩ := hO.slice; have k7 := World.grownBy.cell hg (cell_past c7 hlt') (fun e => q5 e.symm); have g7 := (World.frozen?_of_block (a := ⟨b, 7, none⟩) (hg.block b (by simp; omega) (fun e => q5 e.symm))).trans ((World.frozen?_of_block (a := ⟨b, 7, none⟩) (Below.heap_alloc _ _ _ hlt')).trans f7))
    all_goals
      have hE := hD.later ((Below.refl W'.heap.size W').drew.alloc (Nat.le_refl _) (.cells (Diag.cells d).toArray 49))
      obtain ⟨r1, r2⟩ := hE.setI (by decide) q1 hg hO (fun k hk => by
        rcases hn with e | ⟨k', e, hk'⟩
        · exact .inl (e ▸ hk)
        · rw [e] at hk; cases hk; exact .inr hk')
      have hmm := (hm.trans (Mut.of_below ((Below.refl W'.heap.size W').drew.alloc (Nat.le_refl _) (.cells (Diag.cells d).toArray 49)) hlt')).trans r2
      simp only [List.length_append, List.length_singleton] at r1 hmm
      go_wp2_with fail
      go_end0
      exact ⟨rfl, ⟨_, by rw [HA.out]; exact r1⟩, hmm⟩
end Go.Proofs.YtkfdnlfkomhmfaaGreatDoor
