/- The sizes that the statements' guards reckon. -/
import Derived.Test.YtkfdnlfkomhmfaaGreatDoorOpen
import Derived.Test.YtkfdnlfkomhmfaaGreatDoorProg
namespace Go.Proofs.YtkfdnlfkomhmfaaGreatDoor
open Go.RowKit

mutual
def esz : Expr → Nat
  | ⟨_, name, _, _, args, _⟩ => 1 + name.size + eszs args
def eszs : List Expr → Nat
  | [] => 0
  | x :: xs => esz x + eszs xs
end
theorem esz_eq (x : Expr) : esz x = 1 + x.name.size + eszs x.args := by cases x; simp [esz]
theorem eszs_append (l m : List Expr) : eszs (l ++ m) = eszs l + eszs m := by
  induction l with
  | nil => simp [eszs]
  | cons x l ih => simp [eszs, ih]; omega
theorem take_snoc {α : Type} {l : List α} {k : Nat} {x : α} (h : l[k]? = some x) : l.take (k + 1) = l.take k ++ [x] := by
  obtain ⟨hk, rfl⟩ := List.getElem?_eq_some_iff.1 h
  exact List.take_succ_eq_append_getElem hk
theorem eszs_take {l : List Expr} {k : Nat} {x : Expr} (h : l[k]? = some x) : eszs (l.take (k + 1)) = eszs (l.take k) + esz x := by
  rw [take_snoc h, eszs_append]; simp [eszs]
theorem eszs_take_le (l : List Expr) (k : Nat) : eszs (l.take k) ≤ eszs l := by
  conv => rhs; rw [← List.take_append_drop k l]
  rw [eszs_append]; omega

set_option maxHeartbeats 400000 in
theorem exprSize_any (n : Nat) : ∀ (x : Expr) (va : Value) (N : Nat) (w : World), esz x ≤ n → ExprsAt N w va x.args → N ≤ w.heap.size → Str x.name → esz x ≤ 1000000000 →
    Calls Tryz.prog 45 #[.agg #[.int .i64 x.kind, .string x.name, .int .i16 x.value, .int .i64 x.op, va, .int .i64 x.pos]] w fun e w' => e = .returned (.int .i64 (esz x)) ∧ Below w.heap.size w w' := by
  induction n with
  | zero => intro x va N w hx; rw [esz_eq] at hx; omega
  | succ n ih =>
    intro x va N w hx hA hN hs hz
    unfold Str at hs
    obtain ⟨kind, name, value, op, args, pos⟩ := x
    simp only [esz] at hz hx ⊢
    simp only at hA hs
    obtain ⟨oa, cap, rfl, hc1, hc2, hc3⟩ := hA.slice
    go_enter Tryz.func45, Tryz.ntmps45
    go_wp2_with fail
    obtain ⟨W, hW⟩ : ∃ W, W = w.alloc (.cells #[.int .i64 kind, .string name, .int .i16 value, .int .i64 op, .slice oa args.length cap, .int .i64 pos] 40) := ⟨_, rfl⟩
    have hBW : Below w.heap.size w W := by rw [hW]; exact (Below.refl _ _).alloc (Nat.le_refl _) _
    have hWs : w.heap.size ≤ W.heap.size := hBW.size
    rw [← hW]
    clear hW
    go_loopw [3, 13] (fun v i wr => ∃ k : Nat, k ≤ args.length ∧ i = .int .i64 k ∧ v = .int .i64 ((1 + name.size + eszs (args.take k) : Nat) : Int) ∧ Below w.heap.size w wr) (fun _ i _ => args.length - (intOf i).toNat)
    case atStart => exact ⟨0, Nat.zero_le _, rfl, by simp [eszs], hBW⟩
    case round =>
      obtain ⟨k, hk, rfl, rfl, hB⟩ := hrel
      have hle := eszs_take_le args k
      by_cases hlt : k < args.length
      · obtain ⟨y, b, off, vy, hy, rfl, hb, hwf, hsub, c0, c1, c2, c3, c4, c5⟩ := (hA.lift (hB.mono hN)).at hlt
        obtain ⟨oy, cy, rfl, _, _, _⟩ := hsub.slice
        have ht := eszs_take hy
        have hle2 := eszs_take_le args (k + 1)
        have hBs := hB.size
        have hsum : eszs (args.take k) + esz y ≤ eszs args := by omega
        have H := Lib.hid ht
        clear ht
        go_wp2_with (go_at_call 45; refine (ih y _ N _ (by have := H.out; omega) (hsub.kept (fun b hb => Below.heap_alloc _ _ _ (by omega))) (by simp; omega) hwf.2.1 (by have := H.out; omega)).mono ?_; rintro e w1 ⟨rfl, hB1⟩)
        go_roundw
        case rel => exact ⟨k + 1, by omega, by go_num, by rw [H.out]; go_num, (hB.alloc hBs _).trans (hB1.mono (by simp; omega))⟩
        case measure => simp [intOf]; omega
      · have : k = args.length := by omega
        subst this
        go_wp2_with fail
        go_ret
        exact ⟨ret_int (by simp), hB⟩
end Go.Proofs.YtkfdnlfkomhmfaaGreatDoor
