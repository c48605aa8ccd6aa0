/- check.binary. -/
import Derived.Test.YtkfdnlfkomhmfaaGreatDoorConst
namespace Go.Proofs.YtkfdnlfkomhmfaaGreatDoor
open Go.RowKit
set_option linter.unusedVariables false
set_option linter.unusedSimpArgs false

theorem lit_any (c : Bool) (w : World) : Calls Tryz.prog 91 #[.bool c] w fun e w' => e = .returned (.int .i16 (b2i c)) ∧ w' = w := by
  cases c
  all_goals go_enter Tryz.func91, Tryz.ntmps91
  all_goals go_wp2
  all_goals go_ret
  all_goals exact ⟨rfl, rfl⟩

theorem bne_dec (a : Int) : (a != 0) = decide (a ≠ 0) := by rw [Bool.eq_iff_iff]; simp
theorem ret_vb {k : IntKind} {a c : Int} {b d : Bool} (h : a = c) (h' : b = d) : Ending.returned (.tuple #[.int k a, .bool b]) = .returned (.tuple #[.int k c, .bool d]) := by rw [h, h']
set_option maxHeartbeats 2000000 in
theorem cbinary_any (op a b : Int) (w : World) (ha : I16 a) (hb : I16 b) : Calls Tryz.prog 47 #[.int .i64 op, .int .i16 a, .int .i16 b] w fun e w' => e = .returned (.tuple #[.int .i16 (cbin op a b).1, .bool (cbin op a b).2]) ∧ w' = w := by
  have eg : ∀ args w, (callFunc 91 args).run Tryz.prog w = .ok (.enter 91 args) w := enters_of Tryz.func91 (by kernel_rfl) rfl
  by_cases h14 : op = 14
  · have t14 : (op == 14) = true := beq_iff_eq.2 h14
    have hr : cbin op a b = (b2i ((a != 0) && (b != 0)), true) := by simp only [cbin, h14, if_true, bne_dec]
    have HR := Lib.hid hr
    clear hr h14
    cases h1 : (a != 0) <;> cases h2 : (b != 0)
    all_goals rw [h1, h2] at HR
    all_goals go_enter Tryz.func47, Tryz.ntmps47
    all_goals go_wp2_with (go_at_call 91; refine (lit_any _ _).mono ?_; rintro e w' ⟨rfl, rfl⟩)
    all_goals go_ret2
    all_goals exact ⟨ret_vb (by rw [HR.out]; rfl) (by rw [HR.out]), rfl⟩
  · have t14 : (op == 14) = false := beq_eq_false_iff_ne.2 h14
    by_cases h15 : op = 15
    · have t15 : (op == 15) = true := beq_iff_eq.2 h15
      have hr : cbin op a b = (b2i ((a != 0) || (b != 0)), true) := by simp only [cbin, h14, h15, if_true, if_false, bne_dec]; rfl
      have HR := Lib.hid hr
      clear hr h14 h15
      cases h1 : (a != 0) <;> cases h2 : (b != 0)
      all_goals rw [h1, h2] at HR
      all_goals go_enter Tryz.func47, Tryz.ntmps47
      all_goals go_wp2_with (go_at_call 91; refine (lit_any _ _).mono ?_; rintro e w' ⟨rfl, rfl⟩)
      all_goals go_ret2
      all_goals exact ⟨ret_vb (by rw [HR.out]; rfl) (by rw [HR.out]), rfl⟩
    · have t15 : (op == 15) = false := beq_eq_false_iff_ne.2 h15
      have hr : cbin op a b = ((wbin op a b).1, (wbin op a b).2 == 0) := by simp only [cbin, h14, h15, if_false]
      have HR := Lib.hid hr
      clear hr h14 h15
      go_enter Tryz.func47, Tryz.ntmps47
      go_wp2_with (go_at_call 92; refine (wBinary_any _ _ _ _ ha hb).mono ?_; rintro e w' ⟨rfl, rfl⟩)
      go_ret2
      exact ⟨ret_vb (by rw [HR.out]) (by rw [HR.out]), rfl⟩
end Go.Proofs.YtkfdnlfkomhmfaaGreatDoor
