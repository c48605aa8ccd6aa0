/- What the row's list of package variables gives. -/
import Derived.Test.YtkfdnlfkomhmfaaGreatDoorRows
import Derived.Lib.LaidTab
import Derived.OpenShut
import Derived.Test.YtkfdnlfkomhmfaaGreatDoorExam
namespace Go.Proofs.YtkfdnlfkomhmfaaGreatDoor
open Go.RowKit
set_option linter.unusedVariables false
set_option linter.unusedSimpArgs false
set_option maxRecDepth 100000

theorem ascii_eq : (Rows.laid_strings_asciiSpace : DataW Unit) = Lib.tabData .u8 Lib.asciiSpaceTab := by rfl
theorem cells_fields : Tryz.prog.cellsOf 176 = 5 := by kernel_rfl
theorem cells_fields14 : Tryz.prog.cellsOf 177 = 70 := by kernel_rfl
theorem cells_bool : Tryz.prog.cellsOf 4 = 1 := by kernel_rfl
theorem cells_int1 : Tryz.prog.cellsOf 3 = 1 := by kernel_rfl
theorem gSt : Tryz.prog.globalNamed "trickle/ast.statements" = some 0 := by kernel_rfl
theorem tySt : (Tryz.prog.globals[0]?).map (·.type) = some 177 := by kernel_rfl
theorem gSp : Tryz.prog.globalNamed "strings.asciiSpace" = some 1 := by kernel_rfl
theorem tySp : (Tryz.prog.globals[1]?).map (·.type) = some 197 := by kernel_rfl

theorem fields_cells {cs : List Value} {fuel : Nat} {b0 b1 b2 b3 : Bool} {n : Int} {x : DataW Unit × List MemPlace} {w : World} (h : DataW.trod (fun _ => ()) Tryz.prog w 0 (fun _ => true) false fuel 176 cs = some x)
    (hx : x.1 = .agg [.lit (.bool b0), .lit (.bool b1), .lit (.bool b2), .lit (.bool b3), .lit (.int .i64 n)]) : cs = [.bool b0, .bool b1, .bool b2, .bool b3, .int .i64 n] := by
  obtain ⟨xs, m, h1, h2, h3, h4, h5⟩ := DataW.trod_struct Tryz.underlying176 h
  rw [cells_fields] at h3
  subst h2
  have hxs : xs.map (·.1) = [.lit (.bool b0), .lit (.bool b1), .lit (.bool b2), .lit (.bool b3), .lit (.int .i64 n)] := by simpa using hx
  match cs, h3 with
  | [c0, c1, c2, c3, c4], _ =>
  match xs, hxs with
  | [y0, y1, y2, y3, y4], hxs =>
  simp only [List.map_cons, List.map_nil, List.cons.injEq, and_true] at hxs
  obtain ⟨e0, e1, e2, e3, e4⟩ := hxs
  have g0 := (congrArg (fun k => DataW.trod (fun _ => ()) Tryz.prog w 0 (fun _ => true) false m 4 (List.take k (List.drop 0 [c0, c1, c2, c3, c4]))) cells_bool).symm.trans (h5 0 _ rfl)
  have g1 := (congrArg (fun k => DataW.trod (fun _ => ()) Tryz.prog w 0 (fun _ => true) false m 4 (List.take k (List.drop 1 [c0, c1, c2, c3, c4]))) cells_bool).symm.trans (h5 1 _ rfl)
  have g2 := (congrArg (fun k => DataW.trod (fun _ => ()) Tryz.prog w 0 (fun _ => true) false m 4 (List.take k (List.drop 2 [c0, c1, c2, c3, c4]))) cells_bool).symm.trans (h5 2 _ rfl)
  have g3 := (congrArg (fun k => DataW.trod (fun _ => ()) Tryz.prog w 0 (fun _ => true) false m 4 (List.take k (List.drop 3 [c0, c1, c2, c3, c4]))) cells_bool).symm.trans (h5 3 _ rfl)
  have g4 := (congrArg (fun k => DataW.trod (fun _ => ()) Tryz.prog w 0 (fun _ => true) false m 3 (List.take k (List.drop 4 [c0, c1, c2, c3, c4]))) cells_int1).symm.trans (h5 4 _ rfl)
  obtain ⟨z0, q0, r0⟩ := DataW.trod_bool Tryz.underlying4 g0
  obtain ⟨z1, q1, r1⟩ := DataW.trod_bool Tryz.underlying4 g1
  obtain ⟨z2, q2, r2⟩ := DataW.trod_bool Tryz.underlying4 g2
  obtain ⟨z3, q3, r3⟩ := DataW.trod_bool Tryz.underlying4 g3
  obtain ⟨z4, q4, r4, _⟩ := DataW.trod_int Tryz.underlying3 g4
  simp only [List.drop_succ_cons, List.drop_zero, List.take_succ_cons, List.take_zero, List.cons.injEq, and_true] at q0 q1 q2 q3 q4
  subst q0 q1 q2 q3 q4
  subst r0 r1 r2 r3 r4
  simp at e0 e1 e2 e3 e4
  subst e0 e1 e2 e3 e4
  rfl

def shapeD (k : Nat) : DataW Unit := .agg [.lit (.bool (sName k)), .lit (.bool (sN k)), .lit (.bool (sBody k)), .lit (.bool (sEls k)), .lit (.int .i64 (sArgs k))]
theorem shape_eq (k : Nat) (h1 : 1 ≤ k) (h2 : k ≤ 13) : ∀ l, (Rows.laid_trickle_ast_statements : DataW Unit) = .agg l → l[k]? = some (shapeD k) := by
  intro l hl
  have hk : k = 1 ∨ k = 2 ∨ k = 3 ∨ k = 4 ∨ k = 5 ∨ k = 6 ∨ k = 7 ∨ k = 8 ∨ k = 9 ∨ k = 10 ∨ k = 11 ∨ k = 12 ∨ k = 13 := by omega
  unfold Rows.laid_trickle_ast_statements at hl
  simp only [DataW.agg.injEq] at hl
  subst hl
  rcases hk with rfl | rfl | rfl | rfl | rfl | rfl | rfl | rfl | rfl | rfl | rfl | rfl | rfl
  all_goals rfl

theorem tabs_of {W : World} (h : laidMet Tryz.prog [("unicode.White_Space", Rows.laid_unicode_White_Space), ("strings.asciiSpace", Rows.laid_strings_asciiSpace), ("trickle/ast.statements", Rows.laid_trickle_ast_statements)] W) : Tabs W := by
  obtain ⟨ps, ⟨g1, t1, cs1, f1, p1, q1, _, _, _, _, ⟨g2, t2, cs2, f2, p2, q2, hg2, ht2, hv2, hd2, ⟨g3, t3, cs3, f3, p3, q3, hg3, ht3, hv3, hd3, _, _⟩, _⟩, _⟩, _⟩ := h
  obtain rfl := Option.some.inj (gSp.symm.trans hg2)
  obtain rfl := Option.some.inj (tySp.symm.trans ht2)
  obtain rfl := Option.some.inj (gSt.symm.trans hg3)
  obtain rfl := Option.some.inj (tySt.symm.trans ht3)
  constructor
  · rw [ascii_eq] at hd2
    unfold SpaceTab Lib.TabIs
    rw [hv2, ← Lib.cells_of_tab Tryz.underlying197 Tryz.underlying5 (by kernel_rfl) (by kernel_rfl) hd2]
  · intro k h1 h2
    obtain ⟨xs, m, e1, e2, e3, e4, e5⟩ := DataW.trod_array Tryz.underlying177 hd3
    have e6 := congrArg Prod.fst e2
    simp only at e6
    have e7 := shape_eq k h1 h2 _ e6
    rw [List.getElem?_map] at e7
    obtain ⟨x, hx, hxs⟩ := Option.map_eq_some_iff.1 e7
    have e8 := e5 k (by omega)
    rw [hx, cells_fields] at e8
    have e9 := fields_cells e8 hxs
    have hc : ∀ j, j < 5 → W.cell? ⟨0, k * 5 + j, none⟩ = [Value.bool (sName k), .bool (sN k), .bool (sBody k), .bool (sEls k), .int .i64 (sArgs k)][j]? := by
      intro j hj
      rw [World.var?_cell gSt hv3, ← e9, List.getElem?_take, if_pos hj, List.getElem?_drop, Array.getElem?_toList]
    exact ⟨hc 0 (by omega), hc 1 (by omega), hc 2 (by omega), hc 3 (by omega), hc 4 (by omega)⟩
end Go.Proofs.YtkfdnlfkomhmfaaGreatDoor
