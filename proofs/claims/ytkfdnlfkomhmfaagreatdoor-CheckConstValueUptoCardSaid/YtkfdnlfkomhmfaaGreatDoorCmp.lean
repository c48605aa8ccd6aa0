/- The order of diagnostics: cmp.Compare, cmp.Or, the comparison in All. -/
import Derived.Shelf.SlSortCmp.WholeK
import Derived.Laws.Cover1
import Derived.Ground.SlsfProg
import Derived.Test.YtkfdnlfkomhmfaaGreatDoorLays
import Derived.Test.YtkfdnlfkomhmfaaGreatDoorStmt2
namespace Go.Proofs.YtkfdnlfkomhmfaaGreatDoor
open Go.RowKit Go.Sort
set_option linter.unusedVariables false
set_option linter.unusedSimpArgs false

def cmpI (a b : Int) : Int := if a < b then -1 else if b < a then 1 else 0
def cmpS (a b : ByteArray) : Int := if Op.bytesLess a.toList b.toList then -1 else if a = b then 0 else 1
def cmpD (a b : Diag) : Int := if cmpI a.pos b.pos ≠ 0 then cmpI a.pos b.pos else cmpS a.text b.text

theorem isNaNI_any (a : Int) (w : World) : Calls Tryz.prog 120 #[.int .i64 a] w fun e w' => e = .returned (.bool false) ∧ w' = w := by
  go_enter Tryz.func120, Tryz.ntmps120
  go_wp2_with fail
  go_ret
  exact ⟨ret_bool (by simp), rfl⟩
theorem isNaNS_any (a : ByteArray) (w : World) : Calls Tryz.prog 121 #[.string a] w fun e w' => e = .returned (.bool false) ∧ w' = w := by
  go_enter Tryz.func121, Tryz.ntmps121
  go_wp2_with fail
  go_ret
  exact ⟨ret_bool (by simp), rfl⟩
theorem compareI_any (a b : Int) (w : World) : Calls Tryz.prog 82 #[.int .i64 a, .int .i64 b] w fun e w' => e = .returned (.int .i64 (cmpI a b)) ∧ w' = w := by
  by_cases h1 : a < b
  · have HR := Lib.hid (show cmpI a b = -1 from if_pos h1)
    go_enter Tryz.func82, Tryz.ntmps82
    go_wp2_with (go_at_call 120; refine (isNaNI_any _ _).mono ?_; rintro e w' ⟨rfl, rfl⟩)
    go_ret
    exact ⟨ret_int HR.out.symm, rfl⟩
  · by_cases h2 : b < a
    · have HR := Lib.hid (show cmpI a b = 1 by simp [cmpI, h1, h2])
      go_enter Tryz.func82, Tryz.ntmps82
      go_wp2_with (go_at_call 120; refine (isNaNI_any _ _).mono ?_; rintro e w' ⟨rfl, rfl⟩)
      go_ret
      exact ⟨ret_int HR.out.symm, rfl⟩
    · have HR := Lib.hid (show cmpI a b = 0 by simp [cmpI, h1, h2])
      go_enter Tryz.func82, Tryz.ntmps82
      go_wp2_with (go_at_call 120; refine (isNaNI_any _ _).mono ?_; rintro e w' ⟨rfl, rfl⟩)
      go_ret
      exact ⟨ret_int HR.out.symm, rfl⟩
theorem compareS_any (a b : ByteArray) (w : World) : Calls Tryz.prog 83 #[.string a, .string b] w fun e w' => e = .returned (.int .i64 (cmpS a b)) ∧ w' = w := by
  cases h1 : Op.bytesLess a.toList b.toList
  · by_cases h2 : a = b
    · have t2 := ba_eq h2
      have HR := Lib.hid (show cmpS a b = 0 by unfold cmpS; rw [h1, if_pos h2]; rfl)
      clear h2
      go_enter Tryz.func83, Tryz.ntmps83
      go_wp2_with (go_at_call 121; refine (isNaNS_any _ _).mono ?_; rintro e w' ⟨rfl, rfl⟩)
      go_ret
      exact ⟨ret_int HR.out.symm, rfl⟩
    · have t2 := ba_ne h2
      have HR := Lib.hid (show cmpS a b = 1 by simp [cmpS, h1, h2])
      clear h2
      go_enter Tryz.func83, Tryz.ntmps83
      go_wp2_with (go_at_call 121; refine (isNaNS_any _ _).mono ?_; rintro e w' ⟨rfl, rfl⟩)
      go_ret
      exact ⟨ret_int HR.out.symm, rfl⟩
  · have HR := Lib.hid (show cmpS a b = -1 by simp [cmpS, h1])
    go_enter Tryz.func83, Tryz.ntmps83
    go_wp2_with (go_at_call 121; refine (isNaNS_any _ _).mono ?_; rintro e w' ⟨rfl, rfl⟩)
    go_ret
    exact ⟨ret_int HR.out.symm, rfl⟩
def orI (x y : Int) : Int := if x ≠ 0 then x else y
theorem or_any (x y : Int) (g : Nat) (w : World) (c0 : w.cell? ⟨g, 0, none⟩ = some (.int .i64 x)) (c1 : w.cell? ⟨g, 1, none⟩ = some (.int .i64 y)) :
    Calls Tryz.prog 81 #[.slice (some ⟨g, 0, none⟩) 2 2] w fun e w' => e = .returned (.int .i64 (orI x y)) ∧ w' = w := by
  have HO := Lib.hid (show orI x y = if x ≠ 0 then x else y from rfl)
  generalize orI x y = r at HO ⊢
  go_enter Tryz.func81, Tryz.ntmps81
  go_wp2_with fail
  go_loopw [8] (fun i wr => wr = w ∧ (i = .int .i64 0 ∨ (i = .int .i64 1 ∧ x = 0) ∨ (i = .int .i64 2 ∧ x = 0 ∧ y = 0))) (fun i _ => 2 - (intOf i).toNat)
  case atStart => exact ⟨rfl, .inl rfl⟩
  case round =>
    obtain ⟨rfl, h⟩ := hrel
    rcases h with rfl | ⟨rfl, hx⟩ | ⟨rfl, hx, hy⟩
    · by_cases hx : x = 0
      · have t : (x != 0) = false := by simp [hx]
        have HX := Lib.hid hx
        clear hx
        go_wp2_with fail
        go_roundw
        case rel => first | exact ⟨trivial, .inr (.inl ⟨rfl, HX.out⟩)⟩ | ((repeat apply Exists.intro); exact ⟨⟨trivial, .inr (.inl ⟨rfl, HX.out⟩)⟩, rfl⟩)
        case measure => simp [intOf]
      · have t : (x != 0) = true := by simp [hx]
        have HX := Lib.hid hx
        clear hx
        go_wp2_with fail
        go_ret
        exact ⟨ret_int (by rw [HO.out, if_pos HX.out]), rfl⟩
    · have HX := Lib.hid hx
      clear hx
      by_cases hy : y = 0
      · have t : (y != 0) = false := by simp [hy]
        have HY := Lib.hid hy
        clear hy
        go_wp2_with fail
        go_roundw
        case rel => first | exact ⟨trivial, .inr (.inr ⟨rfl, HX.out, HY.out⟩)⟩ | ((repeat apply Exists.intro); exact ⟨⟨trivial, .inr (.inr ⟨rfl, HX.out, HY.out⟩)⟩, rfl⟩)
        case measure => simp [intOf]
      · have t : (y != 0) = true := by simp [hy]
        clear hy
        go_wp2_with fail
        go_ret
        exact ⟨ret_int (by rw [HO.out, if_neg (by simp [HX.out])]), rfl⟩
    · have HX := Lib.hid hx
      have HY := Lib.hid hy
      clear hx hy
      go_wp2_with fail
      go_ret
      exact ⟨ret_int (by rw [HO.out, if_neg (by simp [HX.out]), HY.out]), rfl⟩

theorem drew_alloc (w : World) (o : Obj) : (w.alloc o).drew = w.drew.alloc o := rfl
set_option maxHeartbeats 1000000 in
theorem cmpD_any (x y : Diag) (W : World) : Calls Tryz.prog 80 #[.agg #[.int .i64 x.pos, .string x.text], .agg #[.int .i64 y.pos, .string y.text]] W fun e w' => e = .returned (.int .i64 (cmpD x y)) ∧ ∃ q os', w' = grow (W.drewN q) os' := by
  have HR := Lib.hid (show cmpD x y = orI (cmpI x.pos y.pos) (cmpS x.text y.text) from rfl)
  have HI := Lib.hid (fun w => compareI_any x.pos y.pos w)
  have HS := Lib.hid (fun w => compareS_any x.text y.text w)
  generalize cmpI x.pos y.pos = ci at HR HI
  generalize cmpS x.text y.text = cs at HR HS
  go_enter Tryz.func80, Tryz.ntmps80
  go_upto_region 1 with fail
  obtain ⟨hA, hX⟩ := Blk.two W #[.int .i64 x.pos, .string x.text] 49 #[.int .i64 y.pos, .string y.text] 49
  have hg : ∃ q os', (W.alloc (.cells #[.int .i64 x.pos, .string x.text] 49)).alloc (.cells #[.int .i64 y.pos, .string y.text] 49) = grow (W.drewN q) os' := ⟨0, _, by rw [alloc_eq_grow, alloc_eq_grow, grow_grow]; rfl⟩
  generalize (W.alloc (.cells #[.int .i64 x.pos, .string x.text] 49)).alloc (.cells #[.int .i64 y.pos, .string y.text] 49) = Z at hA hX hg ⊢
  have a0 := hA.cell 0 (v := .int .i64 x.pos) rfl
  have a1 := hA.cell 1 (v := .string x.text) rfl
  have b0 := hX.cell 0 (v := .int .i64 y.pos) rfl
  have b1 := hX.cell 1 (v := .string y.text) rfl
  refine wp_region_tailq 10 mixed (by kernel_rfl) ?_
  simp only [List.take_succ_cons, List.take_zero, List.drop_succ_cons, List.drop_zero]
  repeat (first | go_big_quiet_step (fail) | (go_big_quiet_want; go_big_quiet_op; apply Exists.intro; refine ⟨HI.out _, ?_⟩; go_big_quiet_on) | (go_big_quiet_want; go_big_quiet_op; apply Exists.intro; refine ⟨HS.out _, ?_⟩; go_big_quiet_on))
  refine wpQuiet_nil ?_
  have d0 : (Z.drew.alloc (.cells #[.int .i64 ci, .int .i64 cs] 3)).cell? ⟨Z.heap.size, 0, none⟩ = some (.int .i64 ci) := cell_first (w := Z.drew) rfl
  have d1 : (Z.drew.alloc (.cells #[.int .i64 ci, .int .i64 cs] 3)).cell? ⟨Z.heap.size, 1, none⟩ = some (.int .i64 cs) := cell_first (w := Z.drew) rfl
  go_wp2_with (go_at_call 81; refine (or_any ci cs _ _ d0 d1).mono ?_; rintro e w' ⟨rfl, rfl⟩)
  go_ret
  refine ⟨ret_int HR.out.symm, ?_⟩
  obtain ⟨q, os', rfl⟩ := hg
  exact ⟨q + 1, os' ++ #[.cells #[.int .i64 ci, .int .i64 cs] 3], by rw [alloc_eq_grow]; show grow (grow (W.drewN (q + 1)) os') _ = _; rw [grow_grow]⟩

def ltD (a b : Diag) : Bool := decide (a.pos < b.pos) || (decide (a.pos = b.pos) && Op.bytesLess a.text.toList b.text.toList)
theorem ltOf_cmpD (a b : Diag) : ltOf cmpD a b = ltD a b := by
  unfold ltOf cmpD ltD cmpI cmpS
  by_cases h1 : a.pos < b.pos
  · simp [h1]
  · by_cases h2 : b.pos < a.pos
    · have : ¬ a.pos = b.pos := by omega
      simp [h1, h2, this]
    · have : a.pos = b.pos := by omega
      rw [this]
      cases hb : Op.bytesLess a.text.toList b.text.toList
      · by_cases ht : a.text = b.text <;> simp [ht]
      · simp
theorem bl_irrefl (a : List UInt8) : Op.bytesLess a a = false := by rw [bytesLess_eq]; exact decide_eq_false (List.lt_irrefl a)
theorem bl_trans {a b c : List UInt8} (h : Op.bytesLess a b = true) (g : Op.bytesLess b c = true) : Op.bytesLess a c = true := by
  rw [bytesLess_eq, decide_eq_true_iff] at *
  exact List.lt_trans h g
theorem bl_total {a b : List UInt8} (h : a ≠ b) : Op.bytesLess a b = true ∨ Op.bytesLess b a = true := by
  simp only [bytesLess_eq, decide_eq_true_iff]
  by_cases h1 : a < b
  · exact .inl h1
  · right
    have h2 : b ≤ a := List.not_lt.1 h1
    rcases List.le_iff_lt_or_eq.1 h2 with r | r
    · exact r
    · exact absurd r.symm h
theorem ltD_iff (a b : Diag) : ltD a b = true ↔ a.pos < b.pos ∨ (a.pos = b.pos ∧ Op.bytesLess a.text.toList b.text.toList = true) := by simp [ltD]
theorem ltD_irrefl (a : Diag) : ltD a a = false := by simp [ltD, bl_irrefl]
theorem ltD_trans {a b c : Diag} (h : ltD a b = true) (g : ltD b c = true) : ltD a c = true := by
  rw [ltD_iff] at *
  rcases h with h | ⟨h, h'⟩ <;> rcases g with g | ⟨g, g'⟩
  · exact .inl (by omega)
  · exact .inl (by omega)
  · exact .inl (by omega)
  · exact .inr ⟨by omega, bl_trans h' g'⟩
theorem toList_inj {a b : ByteArray} (h : a.toList = b.toList) : a = b := by
  have := ba_beq a b
  rw [h] at this
  simpa using this
theorem ltD_total {a b : Diag} (h : a ≠ b) : ltD a b = true ∨ ltD b a = true := by
  simp only [ltD_iff]
  by_cases h1 : a.pos < b.pos
  · exact .inl (.inl h1)
  · by_cases h2 : b.pos < a.pos
    · exact .inr (.inl h2)
    · have hp : a.pos = b.pos := by omega
      have ht : a.text.toList ≠ b.text.toList := fun e => h ((Diag.eq_iff a b).2 ⟨hp, toList_inj e⟩)
      rcases bl_total ht with r | r
      · exact .inl (.inr ⟨hp, r⟩)
      · exact .inr (.inr ⟨hp.symm, r⟩)
theorem ltD_asymm {a b : Diag} (h : ltD a b = true) : ltD b a = false := by
  cases hb : ltD b a
  · rfl
  · have := ltD_trans h hb; rw [ltD_irrefl] at this; cases this
end Go.Proofs.YtkfdnlfkomhmfaaGreatDoor
