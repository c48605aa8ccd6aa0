/- The checker's expr. -/
import Derived.Test.YtkfdnlfkomhmfaaGreatDoorUse
import Derived.Test.YtkfdnlfkomhmfaaGreatDoorConstV
namespace Go.Proofs.YtkfdnlfkomhmfaaGreatDoor
open Go.RowKit
set_option linter.unusedVariables false
set_option linter.unusedSimpArgs false

def exprH (p : Prog) (ls : List ByteArray) (kind : Int) (name : ByteArray) (pos : Int) : List Diag :=
  if kind = 2 then useR p ls name pos tNotValue [1, 7, 2] else if kind = 3 then useR p ls name pos tNotArray [3] else if kind = 4 then useR p ls name pos tNotSensor [4] else []
mutual
def exprR (p : Prog) (ls : List ByteArray) : Expr → List Diag
  | ⟨kind, name, _, _, args, pos⟩ => exprH p ls kind name pos ++ exprsR p ls args
def exprsR (p : Prog) (ls : List ByteArray) : List Expr → List Diag
  | [] => []
  | x :: l => exprR p ls x ++ exprsR p ls l
end
theorem exprR_eq (p : Prog) (ls : List ByteArray) (x : Expr) : exprR p ls x = exprH p ls x.kind x.name x.pos ++ exprsR p ls x.args := by cases x; rw [exprR]
theorem exprsR_append (p : Prog) (ls : List ByteArray) (a b : List Expr) : exprsR p ls (a ++ b) = exprsR p ls a ++ exprsR p ls b := by
  induction a with
  | nil => simp [exprsR]
  | cons x a ih => simp [exprsR, ih]
theorem exprsR_take {p : Prog} {ls : List ByteArray} {l : List Expr} {k : Nat} {x : Expr} (h : l[k]? = some x) : exprsR p ls (l.take (k + 1)) = exprsR p ls (l.take k) ++ exprR p ls x := by
  rw [take_snoc h, exprsR_append]; simp [exprsR]
theorem exprsR_take_len {p : Prog} {ls : List ByteArray} {l : List Expr} {k : Nat} {x : Expr} (h : l[k]? = some x) : (exprsR p ls (l.take k)).length + (exprR p ls x).length ≤ (exprsR p ls l).length := by
  have e : exprsR p ls l = exprsR p ls (l.take (k + 1)) ++ exprsR p ls (l.drop (k + 1)) := by rw [← exprsR_append, List.take_append_drop]
  rw [e, exprsR_take h]; simp
theorem Chk.keep {K : CkK} {w w' : World} {b : Nat} {s : CkS} (h : Chk K w b s) (hm : CMut b w w') : Below K.N w w' := (h.below hm).mono h.hN
theorem Chk.lowN {K : CkK} {w : World} {b : Nat} {s : CkS} (h : Chk K w b s) : K.N ≤ w.heap.size := Nat.le_trans h.hN h.hB
theorem Chk.mk2 {K : CkK} {w : World} {b : Nat} {s s' : CkS} (h : Chk K w b s) (e : s = s') : Chk K w b s' := e ▸ h

set_option maxRecDepth 100000 in
set_option maxHeartbeats 8000000 in
theorem expr_any : ∀ (m : Nat) (x : Expr) {K : CkK} {w : World} {b : Nat} {s : CkS} (h : Chk K w b s) (va : Value), esz x < m → x.Wf → ExprsAt K.N w va x.args → s.out.length + (exprR K.p s.locals x).length ≤ 1000000 → s.locals.length ≤ 1000000 →
    Calls Tryz.prog 113 #[.pointer (some ⟨b, 0, none⟩), .agg #[.int .i64 x.kind, .string x.name, .int .i16 x.value, .int .i64 x.op, va, .int .i64 x.pos]] w fun e w' =>
      e = .returned (.tuple #[]) ∧ Chk K w' b (s.add (exprR K.p s.locals x)) ∧ CMut b w w' := by
  intro m
  induction m with
  | zero => intro x K w b s h va hm; omega
  | succ m ih =>
  intro x K w b s h va hm hwf ha hl hll
  obtain ⟨oa, ca, rfl, _, _, na⟩ := ha.slice
  have hsub : ∀ y, y ∈ x.args → esz y < m := fun y hy => by have := esz_mem hy; omega
  have HS := Lib.hid hsub
  have hlen := hl
  rw [exprR_eq, List.length_append] at hlen
  have HE := Lib.hid (exprR_eq K.p s.locals x)
  clear hm hsub hl
  by_cases h2 : x.kind = 2
  · have t2 : (x.kind == 2) = true := beq_iff_eq.2 h2
    have HH := Lib.hid (show exprH K.p s.locals x.kind x.name x.pos = useR K.p s.locals x.name x.pos tNotValue [1, 7, 2] by simp [exprH, h2])
    have hlu : (exprH K.p s.locals x.kind x.name x.pos).length = (useR K.p s.locals x.name x.pos tNotValue [1, 7, 2]).length := by rw [HH.out]
    clear h2
    go_enter Tryz.func113, Tryz.ntmps113
    go_upto_region 1 with fail
    have hWB := (Below.refl w.heap.size w).alloc (Nat.le_refl _) (.cells #[.int .i64 x.kind, .string x.name, .int .i16 x.value, .int .i64 x.op, .slice oa x.args.length ca, .int .i64 x.pos] 40)
    have hX := h.loc #[.int .i64 x.kind, .string x.name, .int .i16 x.value, .int .i64 x.op, .slice oa x.args.length ca, .int .i64 x.pos] 40
    generalize w.alloc (.cells #[.int .i64 x.kind, .string x.name, .int .i16 x.value, .int .i64 x.op, .slice oa x.args.length ca, .int .i64 x.pos] 40) = W at hX hWB ⊢
    have hC := h.later hWB
    have hM := h.mutOf hWB
    have ha' := ha.lift (hWB.mono h.lowN)
    have x0 := hX.cell (o := 0) rfl
    have x1 := hX.cell (o := 1) rfl
    have x4 := hX.cell (o := 4) rfl
    have x5 := hX.cell (o := 5) rfl
    go_wp2_with (go_at_call 115; refine (use_any (hC.later ((Below.refl _ _).alloc (Nat.le_refl _) _)) x.name x.pos tNotValue [1, 7, 2] 3 rfl _ _ (hC.loc _ _) (by decide) (by omega) hll).mono ?_; rintro e w1 ⟨rfl, hC1, hM1'⟩; have hM1 := (hC.mutOf ((Below.refl _ _).alloc (Nat.le_refl _) _)).trans hM1'; have hX1 := hX.mut hM1; have x4 := hX1.cell (o := 4) rfl)
    replace hC1 : Chk K w1 b (s.add (exprH K.p s.locals x.kind x.name x.pos ++ exprsR K.p s.locals (x.args.take 0))) := hC1.mk2 (by rw [HH.out]; simp [exprsR])
    go_loopw [38] (fun i wr => ∃ k : Nat, k ≤ x.args.length ∧ i = .int .i64 k ∧ Chk K wr b (s.add (exprH K.p s.locals x.kind x.name x.pos ++ exprsR K.p s.locals (x.args.take k))) ∧ CMut b W wr) (fun i _ => x.args.length - (intOf i).toNat)
    case atStart => exact ⟨0, Nat.zero_le _, rfl, hC1, hM1⟩
    case round =>
      obtain ⟨k, hk, rfl, hCr, hMr⟩ := hrel
      rename World => wr
      by_cases hlt : k < x.args.length
      · obtain ⟨y, b', off, vy, hy, rfl, hb, hyw, hya, c0, c1, c2, c3, c4, c5⟩ := ExprsAt.at (ha'.lift (hC.keep hMr)) hlt
        have hmem := HS.out y (List.mem_of_getElem? hy)
        have HT := Lib.hid (exprsR_take (p := K.p) (ls := s.locals) hy)
        have hlq := exprsR_take_len (p := K.p) (ls := s.locals) hy
        have hla := CkS.add_len s (exprH K.p s.locals x.kind x.name x.pos ++ exprsR K.p s.locals (x.args.take k))
        rw [List.length_append] at hla
        clear hy
        obtain ⟨oy, cy, rfl, _, _, _⟩ := hya.slice
        go_upto_region 11 with fail
        have hZ := (Below.refl wr.heap.size wr).alloc (Nat.le_refl _) (.cells #[.int .i64 y.kind, .string y.name, .int .i16 y.value, .int .i64 y.op, .slice oy y.args.length cy, .int .i64 y.pos] 40)
        have hY := Blk.new wr #[.int .i64 y.kind, .string y.name, .int .i16 y.value, .int .i64 y.op, .slice oy y.args.length cy, .int .i64 y.pos] 40
        generalize wr.alloc (.cells #[.int .i64 y.kind, .string y.name, .int .i16 y.value, .int .i64 y.op, .slice oy y.args.length cy, .int .i64 y.pos] 40) = Z at hY hZ ⊢
        have hCZ := hCr.later hZ
        have hMZ := hMr.trans (hCr.mutOf hZ)
        have y0 := hY.cell 0 rfl
        have y1 := hY.cell 1 rfl
        have y2 := hY.cell 2 rfl
        have y3 := hY.cell 3 rfl
        have y4 := hY.cell 4 rfl
        have y5 := hY.cell 5 rfl
        clear c0 c1 c2 c3 c4 c5
        have HC := Lib.hid (ih y hCZ (.slice oy y.args.length cy) hmem hyw (hya.lift (hZ.mono hCr.lowN)) (Nat.le_trans (Nat.add_le_add_right hla _) (by show _ + (exprR K.p s.locals y).length ≤ _; omega)) hll)
        clear hmem hla hlq
        go_wp2_with (go_at_call 113; refine HC.out.mono ?_; rintro e w2 ⟨rfl, hC2, hM2⟩)
        have hC3 : Chk K w2 b (s.add (exprH K.p s.locals x.kind x.name x.pos ++ exprsR K.p s.locals (x.args.take (k + 1)))) := hC2.mk2 (by rw [HT.out, ← List.append_assoc, CkS.add_app s _ (exprR K.p s.locals y)]; rfl)
        go_roundw
        case rel => first | exact ⟨k + 1, by omega, by go_num, hC3, hMZ.trans hM2⟩ | ((repeat apply Exists.intro); exact ⟨⟨k + 1, by omega, by go_num, hC3, hMZ.trans hM2⟩, rfl⟩)
        case measure => simp [intOf]; omega
      · have hk2 : k = x.args.length := by omega
        subst hk2
        go_wp2_with fail
        go_end0
        exact ⟨rfl, hCr.mk2 (by rw [HE.out, List.take_length]), hM.trans hMr⟩
  have t2 : (x.kind == 2) = false := beq_eq_false_iff_ne.2 h2
  by_cases h3 : x.kind = 3
  · have t3 : (x.kind == 3) = true := beq_iff_eq.2 h3
    have HH := Lib.hid (show exprH K.p s.locals x.kind x.name x.pos = useR K.p s.locals x.name x.pos tNotArray [3] by simp [exprH, h2, h3])
    have hlu : (exprH K.p s.locals x.kind x.name x.pos).length = (useR K.p s.locals x.name x.pos tNotArray [3]).length := by rw [HH.out]
    clear h2 h3
    go_enter Tryz.func113, Tryz.ntmps113
    go_upto_region 1 with fail
    have hWB := (Below.refl w.heap.size w).alloc (Nat.le_refl _) (.cells #[.int .i64 x.kind, .string x.name, .int .i16 x.value, .int .i64 x.op, .slice oa x.args.length ca, .int .i64 x.pos] 40)
    have hX := h.loc #[.int .i64 x.kind, .string x.name, .int .i16 x.value, .int .i64 x.op, .slice oa x.args.length ca, .int .i64 x.pos] 40
    generalize w.alloc (.cells #[.int .i64 x.kind, .string x.name, .int .i16 x.value, .int .i64 x.op, .slice oa x.args.length ca, .int .i64 x.pos] 40) = W at hX hWB ⊢
    have hC := h.later hWB
    have hM := h.mutOf hWB
    have ha' := ha.lift (hWB.mono h.lowN)
    have x0 := hX.cell (o := 0) rfl
    have x1 := hX.cell (o := 1) rfl
    have x4 := hX.cell (o := 4) rfl
    have x5 := hX.cell (o := 5) rfl
    go_wp2_with (go_at_call 115; refine (use_any (hC.later ((Below.refl _ _).alloc (Nat.le_refl _) _)) x.name x.pos tNotArray [3] 1 rfl _ _ (hC.loc _ _) (by decide) (by omega) hll).mono ?_; rintro e w1 ⟨rfl, hC1, hM1'⟩; have hM1 := (hC.mutOf ((Below.refl _ _).alloc (Nat.le_refl _) _)).trans hM1'; have hX1 := hX.mut hM1; have x4 := hX1.cell (o := 4) rfl)
    replace hC1 : Chk K w1 b (s.add (exprH K.p s.locals x.kind x.name x.pos ++ exprsR K.p s.locals (x.args.take 0))) := hC1.mk2 (by rw [HH.out]; simp [exprsR])
    go_loopw [38] (fun i wr => ∃ k : Nat, k ≤ x.args.length ∧ i = .int .i64 k ∧ Chk K wr b (s.add (exprH K.p s.locals x.kind x.name x.pos ++ exprsR K.p s.locals (x.args.take k))) ∧ CMut b W wr) (fun i _ => x.args.length - (intOf i).toNat)
    case atStart => exact ⟨0, Nat.zero_le _, rfl, hC1, hM1⟩
    case round =>
      obtain ⟨k, hk, rfl, hCr, hMr⟩ := hrel
      rename World => wr
      by_cases hlt : k < x.args.length
      · obtain ⟨y, b', off, vy, hy, rfl, hb, hyw, hya, c0, c1, c2, c3, c4, c5⟩ := ExprsAt.at (ha'.lift (hC.keep hMr)) hlt
        have hmem := HS.out y (List.mem_of_getElem? hy)
        have HT := Lib.hid (exprsR_take (p := K.p) (ls := s.locals) hy)
        have hlq := exprsR_take_len (p := K.p) (ls := s.locals) hy
        have hla := CkS.add_len s (exprH K.p s.locals x.kind x.name x.pos ++ exprsR K.p s.locals (x.args.take k))
        rw [List.length_append] at hla
        clear hy
        obtain ⟨oy, cy, rfl, _, _, _⟩ := hya.slice
        go_upto_region 11 with fail
        have hZ := (Below.refl wr.heap.size wr).alloc (Nat.le_refl _) (.cells #[.int .i64 y.kind, .string y.name, .int .i16 y.value, .int .i64 y.op, .slice oy y.args.length cy, .int .i64 y.pos] 40)
        have hY := Blk.new wr #[.int .i64 y.kind, .string y.name, .int .i16 y.value, .int .i64 y.op, .slice oy y.args.length cy, .int .i64 y.pos] 40
        generalize wr.alloc (.cells #[.int .i64 y.kind, .string y.name, .int .i16 y.value, .int .i64 y.op, .slice oy y.args.length cy, .int .i64 y.pos] 40) = Z at hY hZ ⊢
        have hCZ := hCr.later hZ
        have hMZ := hMr.trans (hCr.mutOf hZ)
        have y0 := hY.cell 0 rfl
        have y1 := hY.cell 1 rfl
        have y2 := hY.cell 2 rfl
        have y3 := hY.cell 3 rfl
        have y4 := hY.cell 4 rfl
        have y5 := hY.cell 5 rfl
        clear c0 c1 c2 c3 c4 c5
        have HC := Lib.hid (ih y hCZ (.slice oy y.args.length cy) hmem hyw (hya.lift (hZ.mono hCr.lowN)) (Nat.le_trans (Nat.add_le_add_right hla _) (by show _ + (exprR K.p s.locals y).length ≤ _; omega)) hll)
        clear hmem hla hlq
        go_wp2_with (go_at_call 113; refine HC.out.mono ?_; rintro e w2 ⟨rfl, hC2, hM2⟩)
        have hC3 : Chk K w2 b (s.add (exprH K.p s.locals x.kind x.name x.pos ++ exprsR K.p s.locals (x.args.take (k + 1)))) := hC2.mk2 (by rw [HT.out, ← List.append_assoc, CkS.add_app s _ (exprR K.p s.locals y)]; rfl)
        go_roundw
        case rel => first | exact ⟨k + 1, by omega, by go_num, hC3, hMZ.trans hM2⟩ | ((repeat apply Exists.intro); exact ⟨⟨k + 1, by omega, by go_num, hC3, hMZ.trans hM2⟩, rfl⟩)
        case measure => simp [intOf]; omega
      · have hk2 : k = x.args.length := by omega
        subst hk2
        go_wp2_with fail
        go_end0
        exact ⟨rfl, hCr.mk2 (by rw [HE.out, List.take_length]), hM.trans hMr⟩
  have t3 : (x.kind == 3) = false := beq_eq_false_iff_ne.2 h3
  by_cases h4 : x.kind = 4
  · have t4 : (x.kind == 4) = true := beq_iff_eq.2 h4
    have HH := Lib.hid (show exprH K.p s.locals x.kind x.name x.pos = useR K.p s.locals x.name x.pos tNotSensor [4] by simp [exprH, h2, h3, h4])
    have hlu : (exprH K.p s.locals x.kind x.name x.pos).length = (useR K.p s.locals x.name x.pos tNotSensor [4]).length := by rw [HH.out]
    clear h2 h3 h4
    go_enter Tryz.func113, Tryz.ntmps113
    go_upto_region 1 with fail
    have hWB := (Below.refl w.heap.size w).alloc (Nat.le_refl _) (.cells #[.int .i64 x.kind, .string x.name, .int .i16 x.value, .int .i64 x.op, .slice oa x.args.length ca, .int .i64 x.pos] 40)
    have hX := h.loc #[.int .i64 x.kind, .string x.name, .int .i16 x.value, .int .i64 x.op, .slice oa x.args.length ca, .int .i64 x.pos] 40
    generalize w.alloc (.cells #[.int .i64 x.kind, .string x.name, .int .i16 x.value, .int .i64 x.op, .slice oa x.args.length ca, .int .i64 x.pos] 40) = W at hX hWB ⊢
    have hC := h.later hWB
    have hM := h.mutOf hWB
    have ha' := ha.lift (hWB.mono h.lowN)
    have x0 := hX.cell (o := 0) rfl
    have x1 := hX.cell (o := 1) rfl
    have x4 := hX.cell (o := 4) rfl
    have x5 := hX.cell (o := 5) rfl
    go_wp2_with (go_at_call 115; refine (use_any (hC.later ((Below.refl _ _).alloc (Nat.le_refl _) _)) x.name x.pos tNotSensor [4] 1 rfl _ _ (hC.loc _ _) (by decide) (by omega) hll).mono ?_; rintro e w1 ⟨rfl, hC1, hM1'⟩; have hM1 := (hC.mutOf ((Below.refl _ _).alloc (Nat.le_refl _) _)).trans hM1'; have hX1 := hX.mut hM1; have x4 := hX1.cell (o := 4) rfl)
    replace hC1 : Chk K w1 b (s.add (exprH K.p s.locals x.kind x.name x.pos ++ exprsR K.p s.locals (x.args.take 0))) := hC1.mk2 (by rw [HH.out]; simp [exprsR])
    go_loopw [38] (fun i wr => ∃ k : Nat, k ≤ x.args.length ∧ i = .int .i64 k ∧ Chk K wr b (s.add (exprH K.p s.locals x.kind x.name x.pos ++ exprsR K.p s.locals (x.args.take k))) ∧ CMut b W wr) (fun i _ => x.args.length - (intOf i).toNat)
    case atStart => exact ⟨0, Nat.zero_le _, rfl, hC1, hM1⟩
    case round =>
      obtain ⟨k, hk, rfl, hCr, hMr⟩ := hrel
      rename World => wr
      by_cases hlt : k < x.args.length
      · obtain ⟨y, b', off, vy, hy, rfl, hb, hyw, hya, c0, c1, c2, c3, c4, c5⟩ := ExprsAt.at (ha'.lift (hC.keep hMr)) hlt
        have hmem := HS.out y (List.mem_of_getElem? hy)
        have HT := Lib.hid (exprsR_take (p := K.p) (ls := s.locals) hy)
        have hlq := exprsR_take_len (p := K.p) (ls := s.locals) hy
        have hla := CkS.add_len s (exprH K.p s.locals x.kind x.name x.pos ++ exprsR K.p s.locals (x.args.take k))
        rw [List.length_append] at hla
        clear hy
        obtain ⟨oy, cy, rfl, _, _, _⟩ := hya.slice
        go_upto_region 11 with fail
        have hZ := (Below.refl wr.heap.size wr).alloc (Nat.le_refl _) (.cells #[.int .i64 y.kind, .string y.name, .int .i16 y.value, .int .i64 y.op, .slice oy y.args.length cy, .int .i64 y.pos] 40)
        have hY := Blk.new wr #[.int .i64 y.kind, .string y.name, .int .i16 y.value, .int .i64 y.op, .slice oy y.args.length cy, .int .i64 y.pos] 40
        generalize wr.alloc (.cells #[.int .i64 y.kind, .string y.name, .int .i16 y.value, .int .i64 y.op, .slice oy y.args.length cy, .int .i64 y.pos] 40) = Z at hY hZ ⊢
        have hCZ := hCr.later hZ
        have hMZ := hMr.trans (hCr.mutOf hZ)
        have y0 := hY.cell 0 rfl
        have y1 := hY.cell 1 rfl
        have y2 := hY.cell 2 rfl
        have y3 := hY.cell 3 rfl
        have y4 := hY.cell 4 rfl
        have y5 := hY.cell 5 rfl
        clear c0 c1 c2 c3 c4 c5
        have HC := Lib.hid (ih y hCZ (.slice oy y.args.length cy) hmem hyw (hya.lift (hZ.mono hCr.lowN)) (Nat.le_trans (Nat.add_le_add_right hla _) (by show _ + (exprR K.p s.locals y).length ≤ _; omega)) hll)
        clear hmem hla hlq
        go_wp2_with (go_at_call 113; refine HC.out.mono ?_; rintro e w2 ⟨rfl, hC2, hM2⟩)
        have hC3 : Chk K w2 b (s.add (exprH K.p s.locals x.kind x.name x.pos ++ exprsR K.p s.locals (x.args.take (k + 1)))) := hC2.mk2 (by rw [HT.out, ← List.append_assoc, CkS.add_app s _ (exprR K.p s.locals y)]; rfl)
        go_roundw
        case rel => first | exact ⟨k + 1, by omega, by go_num, hC3, hMZ.trans hM2⟩ | ((repeat apply Exists.intro); exact ⟨⟨k + 1, by omega, by go_num, hC3, hMZ.trans hM2⟩, rfl⟩)
        case measure => simp [intOf]; omega
      · have hk2 : k = x.args.length := by omega
        subst hk2
        go_wp2_with fail
        go_end0
        exact ⟨rfl, hCr.mk2 (by rw [HE.out, List.take_length]), hM.trans hMr⟩
  have t4 : (x.kind == 4) = false := beq_eq_false_iff_ne.2 h4
  have HH := Lib.hid (show exprH K.p s.locals x.kind x.name x.pos = [] by simp [exprH, h2, h3, h4])
  clear h2 h3 h4
  go_enter Tryz.func113, Tryz.ntmps113
  go_upto_region 1 with fail
  have hWB := (Below.refl w.heap.size w).alloc (Nat.le_refl _) (.cells #[.int .i64 x.kind, .string x.name, .int .i16 x.value, .int .i64 x.op, .slice oa x.args.length ca, .int .i64 x.pos] 40)
  have hX := h.loc #[.int .i64 x.kind, .string x.name, .int .i16 x.value, .int .i64 x.op, .slice oa x.args.length ca, .int .i64 x.pos] 40
  generalize w.alloc (.cells #[.int .i64 x.kind, .string x.name, .int .i16 x.value, .int .i64 x.op, .slice oa x.args.length ca, .int .i64 x.pos] 40) = W at hX hWB ⊢
  have hC := h.later hWB
  have hM := h.mutOf hWB
  have ha' := ha.lift (hWB.mono h.lowN)
  have x0 := hX.cell (o := 0) rfl
  have x1 := hX.cell (o := 1) rfl
  have x4 := hX.cell (o := 4) rfl
  have x5 := hX.cell (o := 5) rfl
  have hC1 : Chk K W b (s.add []) := hC
  have hM1 : CMut b W W := Mut.refl _ _ _ _
  go_wp2_with fail
  replace hC1 : Chk K W b (s.add (exprH K.p s.locals x.kind x.name x.pos ++ exprsR K.p s.locals (x.args.take 0))) := hC1.mk2 (by rw [HH.out]; simp [exprsR])
  go_loopw [38] (fun i wr => ∃ k : Nat, k ≤ x.args.length ∧ i = .int .i64 k ∧ Chk K wr b (s.add (exprH K.p s.locals x.kind x.name x.pos ++ exprsR K.p s.locals (x.args.take k))) ∧ CMut b W wr) (fun i _ => x.args.length - (intOf i).toNat)
  case atStart => exact ⟨0, Nat.zero_le _, rfl, hC1, hM1⟩
  case round =>
    obtain ⟨k, hk, rfl, hCr, hMr⟩ := hrel
    rename World => wr
    by_cases hlt : k < x.args.length
    · obtain ⟨y, b', off, vy, hy, rfl, hb, hyw, hya, c0, c1, c2, c3, c4, c5⟩ := ExprsAt.at (ha'.lift (hC.keep hMr)) hlt
      have hmem := HS.out y (List.mem_of_getElem? hy)
      have HT := Lib.hid (exprsR_take (p := K.p) (ls := s.locals) hy)
      have hlq := exprsR_take_len (p := K.p) (ls := s.locals) hy
      have hla := CkS.add_len s (exprH K.p s.locals x.kind x.name x.pos ++ exprsR K.p s.locals (x.args.take k))
      rw [List.length_append] at hla
      clear hy
      obtain ⟨oy, cy, rfl, _, _, _⟩ := hya.slice
      go_upto_region 11 with fail
      have hZ := (Below.refl wr.heap.size wr).alloc (Nat.le_refl _) (.cells #[.int .i64 y.kind, .string y.name, .int .i16 y.value, .int .i64 y.op, .slice oy y.args.length cy, .int .i64 y.pos] 40)
      have hY := Blk.new wr #[.int .i64 y.kind, .string y.name, .int .i16 y.value, .int .i64 y.op, .slice oy y.args.length cy, .int .i64 y.pos] 40
      generalize wr.alloc (.cells #[.int .i64 y.kind, .string y.name, .int .i16 y.value, .int .i64 y.op, .slice oy y.args.length cy, .int .i64 y.pos] 40) = Z at hY hZ ⊢
      have hCZ := hCr.later hZ
      have hMZ := hMr.trans (hCr.mutOf hZ)
      have y0 := hY.cell 0 rfl
      have y1 := hY.cell 1 rfl
      have y2 := hY.cell 2 rfl
      have y3 := hY.cell 3 rfl
      have y4 := hY.cell 4 rfl
      have y5 := hY.cell 5 rfl
      clear c0 c1 c2 c3 c4 c5
      have HC := Lib.hid (ih y hCZ (.slice oy y.args.length cy) hmem hyw (hya.lift (hZ.mono hCr.lowN)) (Nat.le_trans (Nat.add_le_add_right hla _) (by show _ + (exprR K.p s.locals y).length ≤ _; omega)) hll)
      clear hmem hla hlq
      go_wp2_with (go_at_call 113; refine HC.out.mono ?_; rintro e w2 ⟨rfl, hC2, hM2⟩)
      have hC3 : Chk K w2 b (s.add (exprH K.p s.locals x.kind x.name x.pos ++ exprsR K.p s.locals (x.args.take (k + 1)))) := hC2.mk2 (by rw [HT.out, ← List.append_assoc, CkS.add_app s _ (exprR K.p s.locals y)]; rfl)
      go_roundw
      case rel => first | exact ⟨k + 1, by omega, by go_num, hC3, hMZ.trans hM2⟩ | ((repeat apply Exists.intro); exact ⟨⟨k + 1, by omega, by go_num, hC3, hMZ.trans hM2⟩, rfl⟩)
      case measure => simp [intOf]; omega
    · have hk2 : k = x.args.length := by omega
      subst hk2
      go_wp2_with fail
      go_end0
      exact ⟨rfl, hCr.mk2 (by rw [HE.out, List.take_length]), hM.trans hMr⟩
end Go.Proofs.YtkfdnlfkomhmfaaGreatDoor
