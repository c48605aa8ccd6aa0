/- 16-bit words: the reference's and the program's operators. -/
import Derived.Test.YtkfdnlfkomhmfaaGreatDoorOpen
import Derived.Test.YtkfdnlfkomhmfaaGreatDoorProg
namespace Go.Proofs.YtkfdnlfkomhmfaaGreatDoor
set_option linter.unusedVariables false
set_option linter.unusedSimpArgs false
open Go.RowKit

def w16 (n : Int) : Int := if n % 65536 ≥ 32768 then n % 65536 - 65536 else n % 65536
theorem w16_in {n : Int} (h : I16 n) : w16 n = n := by unfold I16 at h; unfold w16; split <;> omega
theorem w16_bd (n : Int) : I16 (w16 n) := by unfold w16 I16; split <;> omega
theorem wrap16 (n : Int) : IntKind.i16.wrap n = w16 n := by
  simp [IntKind.wrap, IntKind.bits, IntKind.signed, w16]
def b2i (b : Bool) : Int := if b then 1 else 0
def wun (op a : Int) : Int × Int := if op = 1 then (w16 (-a), 0) else if op = 2 then (b2i (decide (a = 0)), 0) else (0, 1)
def wbin (op a b : Int) : Int × Int :=
  if op = 3 then (w16 (a + b), 0) else if op = 4 then (w16 (a - b), 0) else if op = 5 then (w16 (a * b), 0)
  else if op = 6 then ((if b = 0 then 0 else w16 (a.tdiv b)), 0) else if op = 7 then ((if b = 0 then 0 else a.tmod b), 0)
  else if op = 8 then (b2i (decide (a = b)), 0) else if op = 9 then (b2i (decide (a ≠ b)), 0) else if op = 10 then (b2i (decide (a < b)), 0)
  else if op = 11 then (b2i (decide (a ≤ b)), 0) else if op = 12 then (b2i (decide (b < a)), 0) else if op = 13 then (b2i (decide (b ≤ a)), 0) else (0, 1)

theorem ret_pair {k j : IntKind} {a b c d : Int} (h : a = c) (h' : b = d) : Ending.returned (.tuple #[.int k a, .int j b]) = .returned (.tuple #[.int k c, .int j d]) := by rw [h, h']

theorem wUnary_any (op a : Int) (w : World) : Calls Tryz.prog 46 #[.int .i64 op, .int .i16 a] w fun e w' => e = .returned (.tuple #[.int .i16 (wun op a).1, .int .i64 (wun op a).2]) ∧ w' = w := by
  go_enter Tryz.func46, Tryz.ntmps46
  go_wp2
  all_goals go_ret2
  all_goals refine ⟨ret_pair ?_ ?_, rfl⟩
  all_goals simp_all [wun, b2i, wrap16]

theorem b2i64 (b : Bool) : I64 (b2i b) := by cases b <;> simp [b2i, I64]
theorem w16_b2i (b : Bool) : w16 (b2i b) = b2i b := by cases b <;> simp [b2i, w16]
theorem mul16 {a b : Int} (ha : I16 a) (hb : I16 b) : I64 (a * b) := by
  unfold I16 at ha hb
  have h : (a * b).natAbs ≤ 32768 * 32768 := by rw [Int.natAbs_mul]; exact Nat.mul_le_mul (by omega) (by omega)
  unfold I64; omega
theorem tdiv16 {a b : Int} (ha : I16 a) : -32768 ≤ a.tdiv b ∧ a.tdiv b ≤ 32768 := by
  unfold I16 at ha
  have := Int.natAbs_tdiv_le_natAbs a b
  omega
theorem tmod16 {a b : Int} (ha : I16 a) : I16 (a.tmod b) := by
  unfold I16 at *
  have h1 := Int.natAbs_tmod a b
  have h2 := Nat.mod_le a.natAbs b.natAbs
  rcases Int.lt_or_le a 0 with h | h
  · have h3 := Int.tmod_nonneg b (show 0 ≤ -a by omega)
    rw [Int.neg_tmod] at h3
    omega
  · omega
theorem tmod65536 (n : Int) : (n.tmod 65536) % 65536 = n % 65536 ∧ -65536 < n.tmod 65536 ∧ n.tmod 65536 < 65536 := by
  have h1 := Int.tmod_def n 65536
  exact ⟨by omega, Int.lt_tmod_of_pos n (by omega), Int.tmod_lt_of_pos n (by omega)⟩

theorem truth01_any (b : Bool) (w : World) : Calls Tryz.prog 94 #[.bool b] w fun e w' => e = .returned (.int .i64 (b2i b)) ∧ w' = w := by
  cases b
  all_goals go_enter Tryz.func94, Tryz.ntmps94
  all_goals go_wp2
  all_goals go_ret
  all_goals exact ⟨rfl, rfl⟩
theorem wtruth_any (b : Bool) (w : World) : Calls Tryz.prog 90 #[.bool b] w fun e w' => e = .returned (.int .i16 (b2i b)) ∧ w' = w := by
  cases b
  all_goals go_enter Tryz.func90, Tryz.ntmps90
  all_goals go_wp2
  all_goals go_ret
  all_goals exact ⟨rfl, rfl⟩
theorem Wrap_any (n : Int) (w : World) (h : I64 n) : Calls Tryz.prog 93 #[.int .i64 n] w fun e w' => e = .returned (.int .i16 (w16 n)) ∧ w' = w := by
  unfold I64 at h
  have ht := tmod65536 n
  have H := Lib.hid ht
  clear ht
  go_enter Tryz.func93, Tryz.ntmps93
  go_wp2
  all_goals go_ret
  all_goals refine ⟨ret_int ?_, rfl⟩
  all_goals obtain ⟨h1, h2, h3⟩ := H.out
  all_goals (try rw [wrap16]); unfold wrap64 w16 at *; omega
theorem Quotient_any (a b : Int) (w : World) (ha : I16 a) (hb : I16 b) : Calls Tryz.prog 95 #[.int .i64 a, .int .i64 b] w fun e w' => e = .returned (.int .i64 (if b = 0 then 0 else a.tdiv b)) ∧ w' = w := by
  have hd := @tdiv16 a b ha
  unfold I16 at ha hb
  by_cases h : b = 0
  · subst h
    go_enter Tryz.func95, Tryz.ntmps95
    go_wp2
    go_ret
    exact ⟨rfl, rfl⟩
  · have hz : (b == 0) = false := by simp [h]
    go_enter Tryz.func95, Tryz.ntmps95
    go_wp2
    go_ret
    exact ⟨ret_int (by (try rw [if_neg h]); first | rfl | (unfold wrap64; omega)), rfl⟩
theorem Remainder_any (a b : Int) (w : World) (ha : I16 a) (hb : I16 b) : Calls Tryz.prog 96 #[.int .i64 a, .int .i64 b] w fun e w' => e = .returned (.int .i64 (if b = 0 then 0 else a.tmod b)) ∧ w' = w := by
  have hd := @tmod16 a b ha
  have hq := Int.tmod_def a b
  have HQ := Lib.hid hq
  have HA := Lib.hid ha
  have HB := Lib.hid hb
  unfold I16 at ha hb hd
  by_cases h : b = 0
  · subst h
    go_enter Tryz.func96, Tryz.ntmps96
    go_wp2
    go_ret
    exact ⟨rfl, rfl⟩
  · have hz : (b == 0) = false := by simp [h]
    have hm : -9223372036854775808 ≤ b * a.tdiv b ∧ b * a.tdiv b ≤ 9223372036854775807 := by omega
    clear hq
    have HC := Quotient_any a b w HA.out HB.out
    rw [if_neg h] at HC
    go_enter Tryz.func96, Tryz.ntmps96
    go_wp2_with (go_at_call 95; refine HC.mono ?_; rintro e w' ⟨rfl, rfl⟩)
    go_ret
    refine ⟨ret_int ?_, rfl⟩
    try rw [if_neg h]
    have hq := HQ.out
    rw [IntWalk.wrap64_in _ ⟨by omega, by omega⟩]
    exact hq.symm
theorem rUnary_any (op a : Int) (w : World) (ha : I16 a) : Calls Tryz.prog 48 #[.int .i64 op, .int .i16 a] w fun e w' => e = .returned (.tuple #[.int .i16 (wun op a).1, .int .i64 (wun op a).2]) ∧ w' = w := by
  unfold I16 at ha
  go_enter Tryz.func48, Tryz.ntmps48
  go_wp2_with (first | (go_at_call 94; refine (truth01_any _ _).mono ?_; rintro e w' ⟨rfl, rfl⟩) | (go_at_call 93; refine (Wrap_any _ _ (by first | exact b2i64 _ | (unfold I64; omega))).mono ?_; rintro e w' ⟨rfl, rfl⟩))
  all_goals go_ret2
  all_goals refine ⟨ret_pair ?_ ?_, rfl⟩
  all_goals simp_all [wun, w16_b2i]
  all_goals rfl
set_option maxHeartbeats 1000000 in
theorem rBinary_any (op a b : Int) (w : World) (ha : I16 a) (hb : I16 b) : Calls Tryz.prog 49 #[.int .i64 op, .int .i16 a, .int .i16 b] w fun e w' => e = .returned (.tuple #[.int .i16 (wbin op a b).1, .int .i64 (wbin op a b).2]) ∧ w' = w := by
  have hm := mul16 ha hb
  have HM := Lib.hid hm
  have HA := Lib.hid ha
  have HB := Lib.hid hb
  have hd := @tdiv16 a b ha
  have hr := @tmod16 a b ha
  unfold I64 at hm
  unfold I16 at ha hb hr
  go_enter Tryz.func49, Tryz.ntmps49
  go_wp2_with (first
    | (go_at_call 94; refine (truth01_any _ _).mono ?_; rintro e w' ⟨rfl, rfl⟩)
    | (go_at_call 95; refine (Quotient_any _ _ _ HA.out HB.out).mono ?_; rintro e w' ⟨rfl, rfl⟩)
    | (go_at_call 96; refine (Remainder_any _ _ _ HA.out HB.out).mono ?_; rintro e w' ⟨rfl, rfl⟩)
    | (go_at_call 93; refine (Wrap_any _ _ (by first | exact b2i64 _ | exact HM.out | (unfold I64; omega) | (unfold I64; split <;> omega))).mono ?_; rintro e w' ⟨rfl, rfl⟩))
  all_goals go_ret2
  all_goals refine ⟨ret_pair ?_ ?_, rfl⟩
  all_goals simp_all [wbin, w16_b2i]
  all_goals first | rfl | exact w16_in (tmod16 HA.out)
set_option maxHeartbeats 1000000 in
theorem wBinary_any (op a b : Int) (w : World) (ha : I16 a) (hb : I16 b) : Calls Tryz.prog 92 #[.int .i64 op, .int .i16 a, .int .i16 b] w fun e w' => e = .returned (.tuple #[.int .i16 (wbin op a b).1, .int .i64 (wbin op a b).2]) ∧ w' = w := by
  have HA := Lib.hid ha
  have hd := @tdiv16 a b ha
  have hr := @tmod16 a b ha
  unfold I16 at ha hb hr
  by_cases h0 : b = 0
  · subst h0
    go_enter Tryz.func92, Tryz.ntmps92
    go_wp2
    all_goals go_ret2
    all_goals refine ⟨ret_pair ?_ ?_, rfl⟩
    all_goals simp_all [wbin, b2i, wrap16]
    all_goals first | rfl | exact (w16_in HA.out).symm | (unfold w16; omega)
  · have hz : (b == 0) = false := by simp [h0]
    go_enter Tryz.func92, Tryz.ntmps92
    go_wp2
    all_goals go_ret2
    all_goals refine ⟨ret_pair ?_ ?_, rfl⟩
    all_goals simp_all [wbin, b2i, wrap16]
    all_goals first | rfl | exact (w16_in HA.out).symm | go_ways
end Go.Proofs.YtkfdnlfkomhmfaaGreatDoor
