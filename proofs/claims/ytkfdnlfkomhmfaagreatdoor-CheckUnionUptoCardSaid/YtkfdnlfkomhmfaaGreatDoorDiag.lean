/- Lists of diagnostics: whether one is in it. -/
import Derived.Test.YtkfdnlfkomhmfaaGreatDoorCk
import Derived.Test.YtkfdnlfkomhmfaaGreatDoorLater
import Derived.Deep.QuietTactic
import Derived.BigQuiet
import Derived.Deep.DeepCutAuto
import Derived.Handy
import Derived.Test.YtkfdnlfkomhmfaaGreatDoorStr
namespace Go.Proofs.YtkfdnlfkomhmfaaGreatDoor
open Go.RowKit
set_option linter.unusedVariables false
set_option linter.unusedSimpArgs false

theorem below_drewN0 {B : Nat} {w W : World} (h : Below B w W) (n : Nat) : Below B w (W.drewN n) := ⟨h.os, h.tape, h.output, h.size, h.block⟩
theorem Diag.eq_iff (a b : Diag) : a = b ↔ a.pos = b.pos ∧ a.text = b.text := by
  constructor
  · intro h; rw [h]; exact ⟨rfl, rfl⟩
  · cases a; cases b; rintro ⟨rfl, rfl⟩; rfl
instance : DecidableEq Diag := fun a b => decidable_of_iff _ (Diag.eq_iff a b).symm

def FoundD (l : List Diag) (v : Diag) (w : World) (e : Ending) (w' : World) : Prop := ∃ i : Int, e = .returned (.int .i64 i) ∧ Below w.heap.size w w' ∧ -1 ≤ i ∧ i ≤ 1048576 ∧ (0 ≤ i ↔ v ∈ l)
set_option maxHeartbeats 1000000 in
theorem IndexD_any (N : Nat) (oa : Option Addr) (n cap : Nat) (l : List Diag) (v : Diag) (w : World) (hs : DiagsAt N w (.slice oa n cap) l) (hn : n = l.length) (hN : N ≤ w.heap.size) :
    Calls Tryz.prog 169 #[.slice oa n cap, .agg #[.int .i64 v.pos, .string v.text]] w (FoundD l v w) := by
  obtain ⟨_, _, e, h1, h2, h3⟩ := SliceAt.slice hs
  cases e
  clear hn
  go_enter Tryz.func169, Tryz.ntmps169
  go_upto_region 1 with fail
  have hA := Blk.new w #[.int .i64 v.pos, .string v.text] 49
  have hWB := (Below.refl w.heap.size w).alloc (Nat.le_refl _) (.cells #[.int .i64 v.pos, .string v.text] 49)
  generalize w.alloc (.cells #[.int .i64 v.pos, .string v.text] 49) = W at hA hWB ⊢
  go_wp2_with fail
  go_loopw [5, 8] (fun _ i wr => ∃ k : Nat, k ≤ l.length ∧ i = .int .i64 k ∧ (∀ j : Nat, j < k → l[j]? ≠ some v) ∧ Below W.heap.size W wr) (fun _ i _ => l.length - (intOf i).toNat)
  case atStart => exact ⟨0, Nat.zero_le _, rfl, fun j hj => by omega, Below.refl _ _⟩
  case round =>
    obtain ⟨k, hk, rfl, hno, hB⟩ := hrel
    rename World => wr
    have HN := Lib.hid hno
    clear hno
    have hfin := hWB.trans (hB.mono hWB.size)
    by_cases hlt : k < l.length
    · obtain ⟨x, b, off, hx, rfl, hb, c0, c1⟩ := DiagsAt.at (SliceAt.lift hs (hfin.mono hN)) hlt
      have HX := Lib.hid hx
      clear hx
      have a0 := (hA.later hB).cell 0 rfl
      have a1 := (hA.later hB).cell 1 rfl
      by_cases hv : v = x
      · subst hv
        have hvb := ba_eq (rfl : v.text = v.text)
        have hvi := (show (v.pos == v.pos) = true by simp)
        go_wp2_with fail
        go_quiet (fail)
        go_wp2_with fail
        go_ret
        refine ⟨k, rfl, below_drewN0 hfin _, by omega, by omega, ?_⟩
        exact ⟨fun _ => List.mem_of_getElem? HX.out, fun _ => by omega⟩
      · have hne : (v.pos == x.pos) = false ∨ ((v.pos == x.pos) = true ∧ (v.text.toList == x.text.toList) = false) := by
          by_cases hp : v.pos = x.pos
          · exact .inr ⟨beq_iff_eq.2 hp, ba_ne fun ht => hv ((Diag.eq_iff _ _).2 ⟨hp, ht⟩)⟩
          · exact .inl (beq_eq_false_iff_ne.2 hp)
        have HV := Lib.hid hv
        clear hv
        have hnx : ∀ j : Nat, j < k + 1 → l[j]? ≠ some v := fun j hj => by
          by_cases e : j = k
          · subst e; rw [HX.out]; intro h; cases h; exact HV.out rfl
          · exact HN.out j (by omega)
        have HNX := Lib.hid hnx
        clear hnx
        rcases hne with t1 | ⟨t1, t2⟩
        all_goals go_wp2_with fail
        all_goals go_quiet (fail)
        all_goals go_wp2_with fail
        all_goals go_roundw
        case rel => first | exact ⟨k + 1, by omega, by go_num, HNX.out, below_drewN0 hB _⟩ | ((repeat apply Exists.intro); exact ⟨⟨k + 1, by omega, by go_num, HNX.out, below_drewN0 hB _⟩, rfl⟩)
        case measure => simp [intOf]; omega
        case rel => first | exact ⟨k + 1, by omega, by go_num, HNX.out, below_drewN0 hB _⟩ | ((repeat apply Exists.intro); exact ⟨⟨k + 1, by omega, by go_num, HNX.out, below_drewN0 hB _⟩, rfl⟩)
        case measure => simp [intOf]; omega
    · have : k = l.length := by omega
      subst this
      go_wp2_with fail
      go_ret
      refine ⟨-1, rfl, hfin, by omega, by omega, ⟨fun h => by omega, fun h => ?_⟩⟩
      obtain ⟨j, hj⟩ := List.getElem?_of_mem h
      exact absurd hj (HN.out j (List.getElem?_eq_some_iff.1 hj).1)
theorem ContainsD_any (N : Nat) (oa : Option Addr) (n cap : Nat) (l : List Diag) (v : Diag) (w : World) (hs : DiagsAt N w (.slice oa n cap) l) (hn : n = l.length) (hN : N ≤ w.heap.size) :
    Calls Tryz.prog 145 #[.slice oa n cap, .agg #[.int .i64 v.pos, .string v.text]] w fun e w' => e = .returned (.bool (decide (v ∈ l))) ∧ Below w.heap.size w w' := by
  obtain ⟨_, _, e, h1, h2, h3⟩ := SliceAt.slice hs
  cases e
  clear hn
  go_enter Tryz.func145, Tryz.ntmps145
  go_upto_region 1 with fail
  have hA := Blk.new w #[.int .i64 v.pos, .string v.text] 49
  have hWB := (Below.refl w.heap.size w).alloc (Nat.le_refl _) (.cells #[.int .i64 v.pos, .string v.text] 49)
  generalize w.alloc (.cells #[.int .i64 v.pos, .string v.text] 49) = W at hA hWB ⊢
  have a0 := hA.cell 0 rfl
  have a1 := hA.cell 1 rfl
  have hc := Lib.hid (IndexD_any N oa l.length cap l v W (SliceAt.lift hs (hWB.mono hN)) rfl (Nat.le_trans hN hWB.size))
  go_wp2_with (go_at_call 169; refine hc.out.mono ?_; rintro e w' ⟨i, rfl, hB1, h1, h2, h3⟩; have H3 := Lib.hid h3; clear h1 h2 h3)
  go_ret
  refine ⟨ret_bool ?_, hWB.trans (hB1.mono hWB.size)⟩
  by_cases hv : v ∈ l
  · have := H3.out.2 hv; simp [hv, this]
  · have : i < 0 := by have := H3.out; rcases Int.lt_or_le i 0 with h | h; exact h; exact absurd (this.1 h) hv
    simp [hv, this]

def addD (l : List Diag) (d : Diag) : List Diag := if d ∈ l then l else l ++ [d]
def addAll (l ds : List Diag) : List Diag := ds.foldl addD l
theorem addAll_nil (l : List Diag) : addAll l [] = l := rfl
theorem addAll_app (l a b : List Diag) : addAll l (a ++ b) = addAll (addAll l a) b := by simp [addAll]
theorem addD_len (l : List Diag) (d : Diag) : (addD l d).length ≤ l.length + 1 := by unfold addD; split <;> simp
theorem addAll_len (l ds : List Diag) : (addAll l ds).length ≤ l.length + ds.length := by
  induction ds generalizing l with
  | nil => simp [addAll]
  | cons d ds ih => have := ih (addD l d); have := addD_len l d; simp only [addAll, List.foldl_cons, List.length_cons] at *; omega
theorem infoDiag : (Tryz.prog.info? 49).map (fun i => (i.zero, i.size, i.bytes)) = some (some (.agg #[.int .i64 0, .string ⟨#[]⟩]), 2, 24) := by kernel_rfl
end Go.Proofs.YtkfdnlfkomhmfaaGreatDoor
