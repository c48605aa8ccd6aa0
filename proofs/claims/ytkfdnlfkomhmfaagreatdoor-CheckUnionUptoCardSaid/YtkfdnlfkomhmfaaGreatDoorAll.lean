/- The order of diagnostics: cmp.Compare, cmp.Or, the comparison in All. List.All: a sorted copy. -/
import Derived.Shelf.SlSortCmp.WholeK
import Derived.Laws.Cover1
import Derived.Ground.SlsfProg
import Derived.Test.YtkfdnlfkomhmfaaGreatDoorLays
import Derived.Test.YtkfdnlfkomhmfaaGreatDoorStmt2
namespace Go.Proofs.YtkfdnlfkomhmfaaGreatDoor
open Go.RowKit Go.Sort
set_option linter.unusedVariables false
set_option linter.unusedSimpArgs false

def cmpI (a b : Int) : Int := if a < b then -1 else if b < a then 1 else 0
def cmpS (a b : ByteArray) : Int := if Op.bytesLess a.toList b.toList then -1 else if a = b then 0 else 1
def cmpD (a b : Diag) : Int := if cmpI a.pos b.pos ≠ 0 then cmpI a.pos b.pos else cmpS a.text b.text

theorem isNaNI_any (a : Int) (w : World) : Calls Tryz.prog 120 #[.int .i64 a] w fun e w' => e = .returned (.bool false) ∧ w' = w := by
  go_enter Tryz.func120, Tryz.ntmps120
  go_wp2_with fail
  go_ret
  exact ⟨ret_bool (by simp), rfl⟩
theorem isNaNS_any (a : ByteArray) (w : World) : Calls Tryz.prog 121 #[.string a] w fun e w' => e = .returned (.bool false) ∧ w' = w := by
  go_enter Tryz.func121, Tryz.ntmps121
  go_wp2_with fail
  go_ret
  exact ⟨ret_bool (by simp), rfl⟩
theorem compareI_any (a b : Int) (w : World) : Calls Tryz.prog 82 #[.int .i64 a, .int .i64 b] w fun e w' => e = .returned (.int .i64 (cmpI a b)) ∧ w' = w := by
  by_cases h1 : a < b
  · have HR := Lib.hid (show cmpI a b = -1 from if_pos h1)
    go_enter Tryz.func82, Tryz.ntmps82
    go_wp2_with (go_at_call 120; refine (isNaNI_any _ _).mono ?_; rintro e w' ⟨rfl, rfl⟩)
    go_ret
    exact ⟨ret_int HR.out.symm, rfl⟩
  · by_cases h2 : b < a
    · have HR := Lib.hid (show cmpI a b = 1 by simp [cmpI, h1, h2])
      go_enter Tryz.func82, Tryz.ntmps82
      go_wp2_with (go_at_call 120; refine (isNaNI_any _ _).mono ?_; rintro e w' ⟨rfl, rfl⟩)
      go_ret
      exact ⟨ret_int HR.out.symm, rfl⟩
    · have HR := Lib.hid (show cmpI a b = 0 by simp [cmpI, h1, h2])
      go_enter Tryz.func82, Tryz.ntmps82
      go_wp2_with (go_at_call 120; refine (isNaNI_any _ _).mono ?_; rintro e w' ⟨rfl, rfl⟩)
      go_ret
      exact ⟨ret_int HR.out.symm, rfl⟩
theorem compareS_any (a b : ByteArray) (w : World) : Calls Tryz.prog 83 #[.string a, .string b] w fun e w' => e = .returned (.int .i64 (cmpS a b)) ∧ w' = w := by
  cases h1 : Op.bytesLess a.toList b.toList
  · by_cases h2 : a = b
    · have t2 := ba_eq h2
      have HR := Lib.hid (show cmpS a b = 0 by unfold cmpS; rw [h1, if_pos h2]; rfl)
      clear h2
      go_enter Tryz.func83, Tryz.ntmps83
      go_wp2_with (go_at_call 121; refine (isNaNS_any _ _).mono ?_; rintro e w' ⟨rfl, rfl⟩)
      go_ret
      exact ⟨ret_int HR.out.symm, rfl⟩
    · have t2 := ba_ne h2
      have HR := Lib.hid (show cmpS a b = 1 by simp [cmpS, h1, h2])
      clear h2
      go_enter Tryz.func83, Tryz.ntmps83
      go_wp2_with (go_at_call 121; refine (isNaNS_any _ _).mono ?_; rintro e w' ⟨rfl, rfl⟩)
      go_ret
      exact ⟨ret_int HR.out.symm, rfl⟩
  · have HR := Lib.hid (show cmpS a b = -1 by simp [cmpS, h1])
    go_enter Tryz.func83, Tryz.ntmps83
    go_wp2_with (go_at_call 121; refine (isNaNS_any _ _).mono ?_; rintro e w' ⟨rfl, rfl⟩)
    go_ret
    exact ⟨ret_int HR.out.symm, rfl⟩
def orI (x y : Int) : Int := if x ≠ 0 then x else y
theorem or_any (x y : Int) (g : Nat) (w : World) (c0 : w.cell? ⟨g, 0, none⟩ = some (.int .i64 x)) (c1 : w.cell? ⟨g, 1, none⟩ = some (.int .i64 y)) :
    Calls Tryz.prog 81 #[.slice (some ⟨g, 0, none⟩) 2 2] w fun e w' => e = .returned (.int .i64 (orI x y)) ∧ w' = w := by
  have HO := Lib.hid (show orI x y = if x ≠ 0 then x else y from rfl)
  generalize orI x y = r at HO ⊢
  go_enter Tryz.func81, Tryz.ntmps81
  go_wp2_with fail
  go_loopw [8] (fun i wr => wr = w ∧ (i = .int .i64 0 ∨ (i = .int .i64 1 ∧ x = 0) ∨ (i = .int .i64 2 ∧ x = 0 ∧ y = 0))) (fun i _ => 2 - (intOf i).toNat)
  case atStart => exact ⟨rfl, .inl rfl⟩
  case round =>
    obtain ⟨rfl, h⟩ := hrel
    rcases h with rfl | ⟨rfl, hx⟩ | ⟨rfl, hx, hy⟩
    · by_cases hx : x = 0
      · have t : (x != 0) = false := by simp [hx]
        have HX := Lib.hid hx
        clear hx
        go_wp2_with fail
        go_roundw
        case rel => first | exact ⟨trivial, .inr (.inl ⟨rfl, HX.out⟩)⟩ | ((repeat apply Exists.intro); exact ⟨⟨trivial, .inr (.inl ⟨rfl, HX.out⟩)⟩, rfl⟩)
        case measure => simp [intOf]
      · have t : (x != 0) = true := by simp [hx]
        have HX := Lib.hid hx
        clear hx
        go_wp2_with fail
        go_ret
        exact ⟨ret_int (by rw [HO.out, if_pos HX.out]), rfl⟩
    · have HX := Lib.hid hx
      clear hx
      by_cases hy : y = 0
      · have t : (y != 0) = false := by simp [hy]
        have HY := Lib.hid hy
        clear hy
        go_wp2_with fail
        go_roundw
        case rel => first | exact ⟨trivial, .inr (.inr ⟨rfl, HX.out, HY.out⟩)⟩ | ((repeat apply Exists.intro); exact ⟨⟨trivial, .inr (.inr ⟨rfl, HX.out, HY.out⟩)⟩, rfl⟩)
        case measure => simp [intOf]
      · have t : (y != 0) = true := by simp [hy]
        clear hy
        go_wp2_with fail
        go_ret
        exact ⟨ret_int (by rw [HO.out, if_neg (by simp [HX.out])]), rfl⟩
    · have HX := Lib.hid hx
      have HY := Lib.hid hy
      clear hx hy
      go_wp2_with fail
      go_ret
      exact ⟨ret_int (by rw [HO.out, if_neg (by simp [HX.out]), HY.out]), rfl⟩

theorem drew_alloc (w : World) (o : Obj) : (w.alloc o).drew = w.drew.alloc o := rfl
set_option maxHeartbeats 1000000 in
theorem cmpD_any (x y : Diag) (W : World) : Calls Tryz.prog 80 #[.agg #[.int .i64 x.pos, .string x.text], .agg #[.int .i64 y.pos, .string y.text]] W fun e w' => e = .returned (.int .i64 (cmpD x y)) ∧ ∃ q os', w' = grow (W.drewN q) os' := by
  have HR := Lib.hid (show cmpD x y = orI (cmpI x.pos y.pos) (cmpS x.text y.text) from rfl)
  have HI := Lib.hid (fun w => compareI_any x.pos y.pos w)
  have HS := Lib.hid (fun w => compareS_any x.text y.text w)
  generalize cmpI x.pos y.pos = ci at HR HI
  generalize cmpS x.text y.text = cs at HR HS
  go_enter Tryz.func80, Tryz.ntmps80
  go_upto_region 1 with fail
  obtain ⟨hA, hX⟩ := Blk.two W #[.int .i64 x.pos, .string x.text] 49 #[.int .i64 y.pos, .string y.text] 49
  have hg : ∃ q os', (W.alloc (.cells #[.int .i64 x.pos, .string x.text] 49)).alloc (.cells #[.int .i64 y.pos, .string y.text] 49) = grow (W.drewN q) os' := ⟨0, _, by rw [alloc_eq_grow, alloc_eq_grow, grow_grow]; rfl⟩
  generalize (W.alloc (.cells #[.int .i64 x.pos, .string x.text] 49)).alloc (.cells #[.int .i64 y.pos, .string y.text] 49) = Z at hA hX hg ⊢
  have a0 := hA.cell 0 (v := .int .i64 x.pos) rfl
  have a1 := hA.cell 1 (v := .string x.text) rfl
  have b0 := hX.cell 0 (v := .int .i64 y.pos) rfl
  have b1 := hX.cell 1 (v := .string y.text) rfl
  refine wp_region_tailq 10 mixed (by kernel_rfl) ?_
  simp only [List.take_succ_cons, List.take_zero, List.drop_succ_cons, List.drop_zero]
  repeat (first | go_big_quiet_step (fail) | (go_big_quiet_want; go_big_quiet_op; apply Exists.intro; refine ⟨HI.out _, ?_⟩; go_big_quiet_on) | (go_big_quiet_want; go_big_quiet_op; apply Exists.intro; refine ⟨HS.out _, ?_⟩; go_big_quiet_on))
  refine wpQuiet_nil ?_
  have d0 : (Z.drew.alloc (.cells #[.int .i64 ci, .int .i64 cs] 3)).cell? ⟨Z.heap.size, 0, none⟩ = some (.int .i64 ci) := cell_first (w := Z.drew) rfl
  have d1 : (Z.drew.alloc (.cells #[.int .i64 ci, .int .i64 cs] 3)).cell? ⟨Z.heap.size, 1, none⟩ = some (.int .i64 cs) := cell_first (w := Z.drew) rfl
  go_wp2_with (go_at_call 81; refine (or_any ci cs _ _ d0 d1).mono ?_; rintro e w' ⟨rfl, rfl⟩)
  go_ret
  refine ⟨ret_int HR.out.symm, ?_⟩
  obtain ⟨q, os', rfl⟩ := hg
  exact ⟨q + 1, os' ++ #[.cells #[.int .i64 ci, .int .i64 cs] 3], by rw [alloc_eq_grow]; show grow (grow (W.drewN (q + 1)) os') _ = _; rw [grow_grow]⟩

def ltD (a b : Diag) : Bool := decide (a.pos < b.pos) || (decide (a.pos = b.pos) && Op.bytesLess a.text.toList b.text.toList)
theorem ltOf_cmpD (a b : Diag) : ltOf cmpD a b = ltD a b := by
  unfold ltOf cmpD ltD cmpI cmpS
  by_cases h1 : a.pos < b.pos
  · simp [h1]
  · by_cases h2 : b.pos < a.pos
    · have : ¬ a.pos = b.pos := by omega
      simp [h1, h2, this]
    · have : a.pos = b.pos := by omega
      rw [this]
      cases hb : Op.bytesLess a.text.toList b.text.toList
      · by_cases ht : a.text = b.text <;> simp [ht]
      · simp
theorem bl_irrefl (a : List UInt8) : Op.bytesLess a a = false := by rw [bytesLess_eq]; exact decide_eq_false (List.lt_irrefl a)
theorem bl_trans {a b c : List UInt8} (h : Op.bytesLess a b = true) (g : Op.bytesLess b c = true) : Op.bytesLess a c = true := by
  rw [bytesLess_eq, decide_eq_true_iff] at *
  exact List.lt_trans h g
theorem bl_total {a b : List UInt8} (h : a ≠ b) : Op.bytesLess a b = true ∨ Op.bytesLess b a = true := by
  simp only [bytesLess_eq, decide_eq_true_iff]
  by_cases h1 : a < b
  · exact .inl h1
  · right
    have h2 : b ≤ a := List.not_lt.1 h1
    rcases List.le_iff_lt_or_eq.1 h2 with r | r
    · exact r
    · exact absurd r.symm h
theorem ltD_iff (a b : Diag) : ltD a b = true ↔ a.pos < b.pos ∨ (a.pos = b.pos ∧ Op.bytesLess a.text.toList b.text.toList = true) := by simp [ltD]
theorem ltD_irrefl (a : Diag) : ltD a a = false := by simp [ltD, bl_irrefl]
theorem ltD_trans {a b c : Diag} (h : ltD a b = true) (g : ltD b c = true) : ltD a c = true := by
  rw [ltD_iff] at *
  rcases h with h | ⟨h, h'⟩ <;> rcases g with g | ⟨g, g'⟩
  · exact .inl (by omega)
  · exact .inl (by omega)
  · exact .inl (by omega)
  · exact .inr ⟨by omega, bl_trans h' g'⟩
theorem toList_inj {a b : ByteArray} (h : a.toList = b.toList) : a = b := by
  have := ba_beq a b
  rw [h] at this
  simpa using this
theorem ltD_total {a b : Diag} (h : a ≠ b) : ltD a b = true ∨ ltD b a = true := by
  simp only [ltD_iff]
  by_cases h1 : a.pos < b.pos
  · exact .inl (.inl h1)
  · by_cases h2 : b.pos < a.pos
    · exact .inr (.inl h2)
    · have hp : a.pos = b.pos := by omega
      have ht : a.text.toList ≠ b.text.toList := fun e => h ((Diag.eq_iff a b).2 ⟨hp, toList_inj e⟩)
      rcases bl_total ht with r | r
      · exact .inl (.inr ⟨hp, r⟩)
      · exact .inr (.inr ⟨hp.symm, r⟩)
theorem ltD_asymm {a b : Diag} (h : ltD a b = true) : ltD b a = false := by
  cases hb : ltD b a
  · rfl
  · have := ltD_trans h hb; rw [ltD_irrefl] at this; cases this
end Go.Proofs.YtkfdnlfkomhmfaaGreatDoor

namespace Go.Proofs.YtkfdnlfkomhmfaaGreatDoor
open Go.RowKit Go.Sort Go.Shelf
set_option linter.unusedVariables false
set_option linter.unusedSimpArgs false

theorem holds_of_own {E : TypeId} {B g cap : Nat} {w : World} {l : List Diag} (h : OwnAt Diag.cells 2 E B w (.slice (some ⟨g, 0, none⟩) l.length cap) l) : HoldsK Diag.cells 2 w g 0 l.toArray := by
  intro t ht
  have hs : t < l.length * 2 := by simpa using ht
  have hi : t / 2 < l.length := by omega
  have hj : t % 2 < 2 := Nat.mod_lt _ (by omega)
  have e : t = t / 2 * 2 + t % 2 := by omega
  have hcell := World.ownsRow.cellAt h t (by omega)
  have hg := flat_get (f := Diag.cells) diag_len l (t / 2) (t % 2) hi hj
  rw [← e] at hg
  rw [hg] at hcell
  refine ⟨?_, ?_⟩
  · rw [Nat.zero_add, hcell, get_flatK _ _ _ _ (by simpa using hs)]
    have hd : l.toArray[t / 2]! = l.getD (t / 2) default := by
      rw [getElem!_pos l.toArray (t / 2) (by simpa using hi)]
      simp [List.getD, List.getElem?_eq_getElem hi]
    rw [hd, getElem?_pos (Diag.cells (l.getD (t / 2) default)) (t % 2) (by rw [diag_len]; exact hj), getElem!_pos (Diag.cells (l.getD (t / 2) default)) (t % 2) (by rw [diag_len]; exact hj)]
    rfl
  · obtain ⟨_, h2⟩ := h
    rcases h2 with ⟨e', hn⟩ | ⟨g', cap', cur, e', hg', hw, _⟩
    · cases e'
    · cases e'
      simp [World.frozen?, hw]
theorem flat_of_holds {w : World} {g cap : Nat} {d : Array Diag} (h : HoldsK Diag.cells 2 w g 0 d) (hg : g < w.heap.size) (hs : d.size ≤ 1048576) (hc : d.size ≤ cap) (hcap : cap ≤ 9223372036854775807) :
    DiagsAt w.heap.size w (.slice (some ⟨g, 0, none⟩) d.size cap) d.toList := by
  refine ⟨_, cap, rfl, by simpa using hc, hcap, by simpa using hs, fun _ => ⟨g, 0, rfl, hg, fun i hi => ⟨diag_len _, fun j v hv => ?_⟩⟩⟩
  have hi' : i < d.size := by simpa using hi
  have hj : j < 2 := by have := (List.getElem?_eq_some_iff.1 hv).1; rwa [diag_len] at this
  have hcl := (h.cell hi' hj).1
  rw [hcl, ← hv]
  have hd : d[i]! = d.toList.getD i default := by
    rw [getElem!_pos d i hi']
    simp [List.getD, hi']
  rw [hd, getElem!_pos (Diag.cells (d.toList.getD i default)) j (by rw [diag_len]; exact hj), getElem?_pos (Diag.cells (d.toList.getD i default)) j (by rw [diag_len]; exact hj)]

theorem sorted_below {w : World} {g n : Nat} {d : Array Diag} {os : Array Obj} {B : Nat} (hg : B ≤ g) (hB : B ≤ w.heap.size) : Below B w (sortWorldK Diag.cells 2 w g 0 n d os) := by
  refine ⟨rfl, rfl, rfl, ?_, fun k hk => ?_⟩
  · simp [sortWorldK, grow, putRowK, putRow, mapBlock, ahead]
  · show ((w.heap.modify g _) ++ os)[k]? = _
    have hlt : k < w.heap.size := by omega
    rw [Array.getElem?_append_left (by simpa using hlt), Array.getElem?_modify, if_neg (by omega)]
theorem swoD : SWO (ltOf cmpD) where
  irrefl x := by rw [ltOf_cmpD, ltD_irrefl]
  trans x y z h1 h2 := by rw [ltOf_cmpD] at *; exact ltD_trans h1 h2
  ntrans x y z h1 h2 := by
    rw [ltOf_cmpD] at *
    by_cases h3 : x = y
    · rw [h3]; exact h2
    · by_cases h4 : y = z
      · rw [← h4]; exact h1
      · have a := (ltD_total h3).resolve_left (by simp [h1])
        have b := (ltD_total h4).resolve_left (by simp [h2])
        exact ltD_asymm (ltD_trans b a)

/-- what All answers: the same diagnostics, in order -/
def Sorted (l : List Diag) : Prop := ∀ i j : Nat, i < j → j < l.length → ltD (l.getD j default) (l.getD i default) = false

theorem isAggD : ∀ w, (isAgg 49).run Tryz.prog w = .ok true w := fun w => by kernel_rfl
theorem sizeOfD : ∀ w, (Go.sizeOf 49).run Tryz.prog w = .ok 2 w := fun w => by kernel_rfl

theorem OwnAt.empty0 {α : Type} (f : α → List Value) (sz : Nat) (E : TypeId) (w : World) : OwnAt f sz E w.heap.size (w.alloc (.cells #[] E)) (.slice (some ⟨w.heap.size, 0, none⟩) 0 0) ([] : List α) :=
  World.ownsRow_lit w #[] 0 (Nat.le_refl _) (by unfold maxLen; omega) (by simp)
theorem eqNil_some (ad : Addr) (n cap : Nat) (w : World) : (binOp .eql 32 (.slice (some ad) n cap) (.slice none 0 0)).run Tryz.prog w = .ok (.bool false) w := by kernel_rfl
theorem eqNil_none (n cap : Nat) (w : World) : (binOp .eql 32 (.slice none n cap) (.slice none 0 0)).run Tryz.prog w = .ok (.bool true) w := by kernel_rfl
set_option maxRecDepth 100000 in
set_option maxHeartbeats 1000000 in
theorem Clone_any (N : Nat) (oa : Option Addr) (cap : Nat) (l : List Diag) (w : World) (hs : DiagsAt N w (.slice oa l.length cap) l) (hN : N ≤ w.heap.size) :
    Calls Tryz.prog 78 #[.slice oa l.length cap] w fun e w' => ∃ v, e = .returned v ∧ OwnAt Diag.cells 2 49 w.heap.size w' v l ∧ Below w.heap.size w w' := by
  cases oa with
  | none =>
    have h0 : l = [] := by
      cases hl : l with
      | nil => rfl
      | cons y ys =>
        obtain ⟨_, _, e', _, _, _, h5⟩ := hs
        cases e'
        obtain ⟨b, off, e, _⟩ := h5 (by rw [hl]; simp)
        cases e
    subst h0
    clear hs
    have he := eqNil_none
    go_enter Tryz.func78, Tryz.ntmps78
    go_wp2_with fail
    go_ret
    exact ⟨_, rfl, OwnAt.nil _ _ _ _ _, Below.refl _ _⟩
  | some ad =>
    have hX := Lib.hid hs
    have he := eqNil_some ad
    obtain ⟨_, _, e', _, _, hn, _⟩ := hs
    cases e'
    have hX2 : DiagsAt N (w.alloc (.cells #[] 49)) (.slice (some ad) l.length cap) l := SliceAt.lift hX.out (((Below.refl w.heap.size w).alloc (Nat.le_refl _) _).mono hN)
    go_enter Tryz.func78, Tryz.ntmps78
    go_wp2_with (refine appendL rfl _ _ 32 rfl 49 Tryz.underlying32 infoDiag rfl (by decide) (by decide) diag_len diag_one (OwnAt.empty0 Diag.cells 2 _ w) rfl rfl hX2 (by simp; omega) (by simp) ?_; intro v1 w1 hO1 hg1 _)
    go_ret
    exact ⟨_, rfl, by simpa using hO1, ((Below.refl w.heap.size w).alloc (Nat.le_refl _) _).grown hg1 (by simp) (fun k e => by cases e; exact Nat.le_refl _)⟩

theorem cmpLaysD (blk off size : Nat) (w : World) : CmpLays Tryz.prog 80 #[] Diag.cells 2 cmpD blk off size w := fun _ _ _ _ x y => cmpD_any x y _
theorem egD : ∀ args w, (callFunc 80 args).run Tryz.prog w = .ok (.enter 80 args) w := enters_of Tryz.func80 (by kernel_rfl) rfl
set_option maxHeartbeats 4000000 in
theorem insNil_any (w : World) : Calls Tryz.prog 147 #[.slice none 0 0, .int .i64 0, .int .i64 0, .func (.func 80) #[] #[]] w fun e w' => e = .returned (.tuple #[]) ∧ w' = w := by
  go_enter Tryz.func147, Tryz.ntmps147
  go_wp2_with fail
  go_loopw [8] (fun i wr => i = .int .i64 1 ∧ wr = w) (fun i _ => 0)
  case atStart => exact ⟨rfl, rfl⟩
  case round =>
    obtain ⟨rfl, rfl⟩ := hrel
    go_wp2_with fail
    go_end0
    exact ⟨rfl, rfl⟩
set_option maxRecDepth 100000 in
set_option maxHeartbeats 4000000 in
theorem pdqNil_any (m : Int) (w : World) : Calls Tryz.prog 118 #[.slice none 0 0, .int .i64 0, .int .i64 0, .int .i64 m, .func (.func 80) #[] #[]] w fun e w' => e = .returned (.tuple #[]) ∧ w' = w := by
  go_enter Tryz.func118, Tryz.ntmps118
  go_wp2_with fail
  go_loopw [1, 2] (fun i j wr => i = .int .i64 0 ∧ j = .int .i64 0 ∧ wr = w) (fun i j _ => 0)
  case atStart => exact ⟨rfl, rfl, rfl⟩
  case round =>
    obtain ⟨rfl, rfl, rfl⟩ := hrel
    go_wp2_with (go_at_call 147; refine (insNil_any _).mono ?_; rintro e w' ⟨rfl, rfl⟩)
    refine bodyPost_ret (results_none rfl _ _ _) rfl ?_
    exact ⟨rfl, rfl⟩
theorem sortNil_any (w : World) : Calls Tryz.prog 79 #[.slice none 0 0, .func (.func 80) #[] #[]] w fun e w' => e = .returned (.tuple #[]) ∧ w' = w := by
  have hb : Calls Tryz.prog 119 #[.int .u64 0] w fun e w' => e = .returned (.int .i64 ((Lib.bitLen (0 : Int).toNat : Nat))) ∧ w' = w :=
    Any.bits_Len (SlLaysF0.n15.bits (P := Tryz.prog) { Tryz.sortD with }) 0 w (by omega) (by omega)
  generalize ((Lib.bitLen (0 : Int).toNat : Nat) : Int) = m at hb
  go_enter Tryz.func79, Tryz.ntmps79
  go_wp2_with (first
    | (go_at_call 119; refine hb.mono ?_; rintro e w' ⟨rfl, rfl⟩)
    | (go_at_call 118; refine (pdqNil_any _ _).mono ?_; rintro e w' ⟨rfl, rfl⟩))
  go_end0
  exact ⟨rfl, rfl⟩
theorem sortD_any {B : Nat} {w : World} {v : Value} {l : List Diag} (h : OwnAt Diag.cells 2 49 B w v l) (hl : l.length ≤ 1000000) (hB : B ≤ w.heap.size) :
    Calls Tryz.prog 79 #[v, .func (.func 80) #[] #[]] w fun e w' => e = .returned (.tuple #[]) ∧ Below B w w' ∧ ∃ l', l'.Perm l ∧ Sorted l' ∧ DiagsAt w'.heap.size w' v l' := by
  obtain ⟨oa, cap, rfl, hc1, hc2⟩ := h.slice
  have hh := h
  rcases h.2 with ⟨e, hn⟩ | ⟨g, cap', cur, e, hg, hw, _⟩
  · have h0 : l = [] := List.length_eq_zero_iff.1 hn
    subst h0
    simp at e
    obtain ⟨rfl, rfl⟩ := e
    refine (sortNil_any w).mono fun e w' ⟨he, hw⟩ => ⟨he, by rw [hw]; exact Below.refl _ _, [], List.Perm.refl _, fun i j _ hj => by simp at hj, ?_⟩
    exact ⟨none, 0, rfl, by simp, by omega, by simp, fun h => by simp at h⟩
  · cases e
    have hlt := (Array.getElem?_eq_some_iff.1 hw).1
    have hcon := AnyQ.slices_SortFunc Tryz.sortD 2 isAggD sizeOfD Diag.cells diag_len diag_one cmpD swoD 80 #[] g 0 cap l.toArray w egD (cmpLaysD g 0 _ w) (holds_of_own hh) hlt (by simp; omega)
    change Calls Tryz.prog 79 _ _ _ at hcon
    refine hcon.mono ?_
    rintro e w' ⟨he, d', n, os, hp, hs, rfl⟩
    have hsz : d'.size = l.length := by simpa using hp.1
    refine ⟨he, sorted_below hg hB, d'.toList, ?_, ?_, ?_⟩
    · have := hp.2.2
      rw [← hp.1] at this
      simp at this
      have e2 : l.toArray.extract 0 d'.size = l.toArray := by rw [hp.1]; simp
      simpa [hsz] using this
    · intro i j hij hj
      have hj' : j < d'.size := by simpa using hj
      have := hs i j (Nat.zero_le _) hij (by simpa [hsz] using hj')
      rw [ltOf_cmpD, getElem!_pos d' j hj', getElem!_pos d' i (by omega)] at this
      simpa [List.getD, hj', show i < d'.size by omega] using this
    · have hH : HoldsK Diag.cells 2 (sortWorldK Diag.cells 2 w g 0 n d' os) g 0 d' := by
        refine holdsK_grow _ _ _ _ _ _ _ ?_ (holdsK_putRowK _ _ _ _ _ l.toArray d' (holdsK_ahead _ _ _ _ _ _ _ (holds_of_own hh)) (by simpa using hp.1))
        simp [putRowK, putRow, mapBlock, ahead]; exact hlt
      have := flat_of_holds (cap := cap) hH ?_ (by omega) (by omega) hc2
      · rw [hsz] at this; exact this
      · simp [sortWorldK, grow, putRowK, putRow, mapBlock, ahead]; omega

set_option maxHeartbeats 1000000 in
theorem All_any {K : CkK} {w : World} {b : Nat} {s : CkS} (h : Chk K w b s) (hl : s.out.length ≤ 1000000) :
    Calls Tryz.prog 39 #[.pointer (some ⟨b, 7, none⟩)] w fun e w' => ∃ v l, e = .returned v ∧ l.Perm s.out ∧ Sorted l ∧ DiagsAt w'.heap.size w' v l ∧ Below w.heap.size w w' := by
  obtain ⟨vl, vs, hk⟩ := h.ck
  obtain ⟨va, vb, q1, q2, q3, q4, _⟩ := hk.ex
  obtain ⟨oa, cap, rfl, _, _⟩ := q3.slice
  have c7 := hk.cell (o := 7) q1
  have hD := q3.flat diag_len (by omega)
  go_enter Tryz.func39, Tryz.ntmps39
  go_wp2_with (first
    | (go_at_call 78; refine (Clone_any _ oa cap s.out w hD (Nat.le_refl _)).mono ?_; rintro e w1 ⟨v, rfl, hO, hB1⟩)
    | (go_at_call 79; refine (sortD_any hO (by omega) hB1.size).mono ?_; rintro e w2 ⟨rfl, hB2, l, hp, hs, hd⟩))
  go_ret
  exact ⟨_, l, rfl, hp, hs, hd, hB1.trans hB2⟩
end Go.Proofs.YtkfdnlfkomhmfaaGreatDoor
