/- The checker's task, where the task has no channel and no parameter. The checker's stmt and block, where every statement is an assignment to a name. -/
import Derived.Test.YtkfdnlfkomhmfaaGreatDoorNamC
import Derived.Test.YtkfdnlfkomhmfaaGreatDoorTask
namespace Go.Proofs.YtkfdnlfkomhmfaaGreatDoor
open Go.RowKit
set_option linter.unusedVariables false
set_option linter.unusedSimpArgs false

theorem Lcl.eight {i j b : Nat} {w : World} {k : Nat} {a0 a1 a2 a3 a4 a5 a6 a7 : Value} {T : TypeId} (h : Lcl i j b w k #[a0, a1, a2, a3, a4, a5, a6, a7] T) :
    w.cell? ⟨k, 1, none⟩ = some a1 ∧ w.cell? ⟨k, 2, none⟩ = some a2 ∧ w.cell? ⟨k, 3, none⟩ = some a3 ∧ w.cell? ⟨k, 4, none⟩ = some a4 ∧ w.cell? ⟨k, 5, none⟩ = some a5 ∧ w.cell? ⟨k, 7, none⟩ = some a7 :=
  ⟨h.cell rfl, h.cell rfl, h.cell rfl, h.cell rfl, h.cell rfl, h.cell rfl⟩
def taskR (p : Prog) (i : Nat) (t : Task) : List Diag :=
  (if t.channel = emp then rep (!decide (1 ≤ t.period ∧ t.period ≤ 32767) || decide (t.param ≠ emp)) t.pos tTrig
    else rep ((t.period != 0) || decide (t.param = emp)) t.pos tTrig ++ (rep (!(p.channels.any fun h => decide (h.name = t.channel))) t.pos tUnkChan ++ rep ((p.tasks.take i).any fun u => decide (u.channel = t.channel)) t.pos tSecond)) ++
  (rep (!decide (0 ≤ t.deadline ∧ t.deadline ≤ 32767)) t.pos tDeadline ++
    (rep (!decide (0 ≤ t.within ∧ t.within ≤ 32767) || ((t.within != 0) && decide (t.channel = emp))) t.pos tWithin ++
      (if t.param = emp then [] else rep (lookB (namesOf p) t.param) t.pos tDup)))
theorem taskR_len (p : Prog) (i : Nat) (t : Task) : (taskR p i t).length ≤ 6 := by
  unfold taskR
  have h1 := rep_len (!decide (1 ≤ t.period ∧ t.period ≤ 32767) || decide (t.param ≠ emp)) t.pos tTrig
  have h2 := rep_len ((t.period != 0) || decide (t.param = emp)) t.pos tTrig
  have h3 := rep_len (!(p.channels.any fun h => decide (h.name = t.channel))) t.pos tUnkChan
  have h4 := rep_len ((p.tasks.take i).any fun u => decide (u.channel = t.channel)) t.pos tSecond
  have h5 := rep_len (!decide (0 ≤ t.deadline ∧ t.deadline ≤ 32767)) t.pos tDeadline
  have h6 := rep_len (!decide (0 ≤ t.within ∧ t.within ≤ 32767) || ((t.within != 0) && decide (t.channel = emp))) t.pos tWithin
  have h7 := rep_len (lookB (namesOf p) t.param) t.pos tDup
  simp only [List.length_append]
  split <;> split <;> (try simp only [List.length_append, List.length_nil]) <;> omega

set_option maxRecDepth 100000 in
set_option maxHeartbeats 8000000 in
theorem task_in {K : CkK} {w : World} {b : Nat} {s : CkS} (h : Chk K w b s) (i : Nat) (t : Task) (ht : K.p.tasks[i]? = some t) (hch : t.channel = emp) (hpa : t.param = emp) (hl : s.out.length + 6 ≤ 1000000) :
    Calls Tryz.prog 37 #[.pointer (some ⟨b, 0, none⟩), .int .i64 i] w fun e w' => e = .returned (.tuple #[]) ∧ Chk K w' b (s.add (taskR K.p i t)) ∧ CMut b w w' := by
  obtain ⟨vl, vs, hk⟩ := h.ck
  have hp := h.prog
  have hlt : i < K.p.tasks.length := (List.getElem?_eq_some_iff.1 ht).1
  obtain ⟨o5, q5, e5, _, _, n5⟩ := hp.tasks.slice
  have htk := hp.tasks
  rw [e5] at htk
  obtain ⟨t', bt, off, vb, ht', rfl, hbt, hwf, hbo, z0, z1, z2, z3, z4, z5, z6, z7⟩ := TasksAt.at htk hlt
  obtain rfl : t' = t := Option.some.inj (ht'.symm.trans ht)
  obtain ⟨ob, cb, rfl, _, _, _⟩ := hbo.slice
  have c5 := hk.cell (o := 5) rfl
  rw [e5] at c5
  have em1 : t'.channel.toList.isEmpty = true := by rw [isEmp, hch]; rfl
  have em2 : t'.param.toList.isEmpty = true := by rw [isEmp, hpa]; rfl
  have hR : taskR K.p i t' = rep (!decide (1 ≤ t'.period ∧ t'.period ≤ 32767)) t'.pos tTrig ++ (rep (!decide (0 ≤ t'.deadline ∧ t'.deadline ≤ 32767)) t'.pos tDeadline ++ rep (!decide (0 ≤ t'.within ∧ t'.within ≤ 32767) || (t'.within != 0)) t'.pos tWithin) := by
    simp [taskR, hch, hpa]
  have hin1 := fun w => within_any t'.period 1 32767 w
  have hin2 := fun w => within_any t'.deadline 0 32767 w
  have hin3 := fun w => within_any t'.within 0 32767 w
  generalize decide (1 ≤ t'.period ∧ t'.period ≤ 32767) = b1 at hin1 hR
  generalize decide (0 ≤ t'.deadline ∧ t'.deadline ≤ 32767) = b2 at hin2 hR
  generalize decide (0 ≤ t'.within ∧ t'.within ≤ 32767) = b3 at hin3 hR
  generalize hb4 : (t'.within != 0) = b4 at hR
  have HR := Lib.hid hR
  have HI1 := Lib.hid hin1
  have HI2 := Lib.hid hin2
  have HI3 := Lib.hid hin3
  clear hR hin1 hin2 hin3 hch hpa ht ht' hk hwf
  go_enter Tryz.func37, Tryz.ntmps37
  go_upto_region 1 with fail
  have hZ := (Below.refl w.heap.size w).alloc (Nat.le_refl _) (.cells #[.string t'.name, .int .i64 t'.period, .int .i64 t'.deadline, .string t'.channel, .string t'.param, .int .i64 t'.within, .slice ob t'.body.length cb, .int .i64 t'.pos] 53)
  have hY := h.loc #[.string t'.name, .int .i64 t'.period, .int .i64 t'.deadline, .string t'.channel, .string t'.param, .int .i64 t'.within, .slice ob t'.body.length cb, .int .i64 t'.pos] 53
  generalize w.alloc (.cells #[.string t'.name, .int .i64 t'.period, .int .i64 t'.deadline, .string t'.channel, .string t'.param, .int .i64 t'.within, .slice ob t'.body.length cb, .int .i64 t'.pos] 53) = Z at hY hZ ⊢
  have hCZ := h.later hZ
  have hMZ := h.mutOf hZ
  obtain ⟨y1, y2, y3, y4, y5, y7⟩ := hY.eight
  clear z0 z1 z2 z3 z4 z5 z6 z7 c5
  go_upto_region 2 with fail
  cases b1 <;> cases b3 <;> cases b4
  all_goals
    have HC := Lib.hid hCZ
    have HM := Lib.hid hMZ
    have HY := Lib.hid hY
    clear hCZ hMZ hY
    refine wp_region_tailq 12 mixed (by kernel_rfl) ?_
    simp only [List.take_succ_cons, List.take_zero, List.drop_succ_cons, List.drop_zero]
    repeat (first | go_big_quiet_step (fail) | (go_big_quiet_want; go_big_quiet_op; apply Exists.intro; refine ⟨HI1.out _, ?_⟩; go_big_quiet_on))
    refine wpQuiet_nil ?_
    have hCD := HC.out.later ((Below.refl Z.heap.size Z).drew)
    have hMD := HM.out.trans (HC.out.mutOf ((Below.refl Z.heap.size Z).drew))
    have hYD := HY.out.mut (HC.out.mutOf ((Below.refl Z.heap.size Z).drew))
    change wpList _ _ _ _ _ Z.drew
    clear HC HM HY y1 y2 y3 y4 y5 y7
    go_wp2_with (go_at_call 68; refine (report_l hCD _ _ _ (by omega)).mono ?_; rintro e w1 ⟨rfl, hC3, hM3, hl3⟩; have hY3 := hYD.mut hM3; have hM3' := hMD.trans hM3; have HC := Lib.hid hC3; have HM := Lib.hid hM3'; have HY := Lib.hid hY3; skip; clear hCD hMD hYD hC3 hM3 hY3 hM3')
    generalize hst : CkS.add _ _ = st1 at hl3 HC
    have HST1 := Lib.hid hst
    have hlen1 : st1.out.length ≤ s.out.length + 1 := by omega
    clear hst hl3
    clear hZ
    rename World => Z
    obtain ⟨y1, y2, y3, y4, y5, y7⟩ := HY.out.eight
    refine wp_region_tailq 7 mixed (by kernel_rfl) ?_
    simp only [List.take_succ_cons, List.take_zero, List.drop_succ_cons, List.drop_zero]
    repeat (first | go_big_quiet_step (fail) | (go_big_quiet_want; go_big_quiet_op; apply Exists.intro; refine ⟨HI2.out _, ?_⟩; go_big_quiet_on))
    refine wpQuiet_nil ?_
    have hCD := HC.out.later ((Below.refl Z.heap.size Z).drew)
    have hMD := HM.out.trans (HC.out.mutOf ((Below.refl Z.heap.size Z).drew))
    have hYD := HY.out.mut (HC.out.mutOf ((Below.refl Z.heap.size Z).drew))
    change wpList _ _ _ _ _ Z.drew
    clear HC HM HY y1 y2 y3 y4 y5 y7
    go_wp2_with (go_at_call 68; refine (report_l hCD _ _ _ (by omega)).mono ?_; rintro e w2 ⟨rfl, hC3, hM3, hl3⟩; have hY3 := hYD.mut hM3; have hM3' := hMD.trans hM3; have HC := Lib.hid hC3; have HM := Lib.hid hM3'; have HY := Lib.hid hY3; skip; clear hCD hMD hYD hC3 hM3 hY3 hM3')
    generalize hst : CkS.add _ _ = st2 at hl3 HC
    have HST2 := Lib.hid hst
    have hlen2 : st2.out.length ≤ s.out.length + 2 := by omega
    clear hst hl3
    rename World => Z
    obtain ⟨y1, y2, y3, y4, y5, y7⟩ := HY.out.eight
    refine wp_region_tailq 17 mixed (by kernel_rfl) ?_
    simp only [List.take_succ_cons, List.take_zero, List.drop_succ_cons, List.drop_zero]
    repeat (first | go_big_quiet_step (fail) | (go_big_quiet_want; go_big_quiet_op; apply Exists.intro; refine ⟨HI3.out _, ?_⟩; go_big_quiet_on))
    refine wpQuiet_nil ?_
    have hCD := HC.out.later ((Below.refl Z.heap.size Z).drew)
    have hMD := HM.out.trans (HC.out.mutOf ((Below.refl Z.heap.size Z).drew))
    have hYD := HY.out.mut (HC.out.mutOf ((Below.refl Z.heap.size Z).drew))
    change wpList _ _ _ _ _ Z.drew
    clear HC HM HY y1 y2 y3 y4 y5 y7
    go_wp2_with (go_at_call 68; refine (report_l hCD _ _ _ (by omega)).mono ?_; rintro e w3 ⟨rfl, hC3, hM3, hl3⟩; have hY3 := hYD.mut hM3; have hM3' := hMD.trans hM3; have HC := Lib.hid hC3; have HM := Lib.hid hM3'; have HY := Lib.hid hY3; obtain ⟨z1, z2, z3, y4, z5, z7⟩ := hY3.eight; clear hCD hMD hYD hC3 hM3 hY3 hM3')
    go_end0
    exact ⟨rfl, HC.out.mk2 (by rw [HR.out]; simp only [CkS.add_app]; rw [← HST2.out, ← HST1.out]; rfl), HM.out⟩
end Go.Proofs.YtkfdnlfkomhmfaaGreatDoor

namespace Go.Proofs.YtkfdnlfkomhmfaaGreatDoor
open Go.RowKit
set_option linter.unusedVariables false
set_option linter.unusedSimpArgs false

theorem Lcl.seven {i j b : Nat} {w : World} {k : Nat} {a0 a1 a2 a3 a4 a5 a6 : Value} {T : TypeId} (h : Lcl i j b w k #[a0, a1, a2, a3, a4, a5, a6] T) :
    w.cell? ⟨k, 0, none⟩ = some a0 ∧ w.cell? ⟨k, 1, none⟩ = some a1 ∧ w.cell? ⟨k, 2, none⟩ = some a2 ∧ w.cell? ⟨k, 3, none⟩ = some a3 ∧ w.cell? ⟨k, 4, none⟩ = some a4 ∧ w.cell? ⟨k, 5, none⟩ = some a5 ∧ w.cell? ⟨k, 6, none⟩ = some a6 :=
  ⟨h.cell rfl, h.cell rfl, h.cell rfl, h.cell rfl, h.cell rfl, h.cell rfl, h.cell rfl⟩
theorem Blk.six {w : World} {k : Nat} {a0 a1 a2 a3 a4 a5 : Value} {T : TypeId} (h : Blk w k #[a0, a1, a2, a3, a4, a5] T) :
    w.cell? ⟨k, 0, none⟩ = some a0 ∧ w.cell? ⟨k, 1, none⟩ = some a1 ∧ w.cell? ⟨k, 2, none⟩ = some a2 ∧ w.cell? ⟨k, 3, none⟩ = some a3 ∧ w.cell? ⟨k, 4, none⟩ = some a4 ∧ w.cell? ⟨k, 5, none⟩ = some a5 :=
  ⟨h.cell 0 rfl, h.cell 1 rfl, h.cell 2 rfl, h.cell 3 rfl, h.cell 4 rfl, h.cell 5 rfl⟩
theorem Blk.sev {w : World} {k : Nat} {a0 a1 a2 a3 a4 a5 a6 : Value} {T : TypeId} (h : Blk w k #[a0, a1, a2, a3, a4, a5, a6] T) :
    w.cell? ⟨k, 0, none⟩ = some a0 ∧ w.cell? ⟨k, 1, none⟩ = some a1 ∧ w.cell? ⟨k, 2, none⟩ = some a2 ∧ w.cell? ⟨k, 3, none⟩ = some a3 ∧ w.cell? ⟨k, 4, none⟩ = some a4 ∧ w.cell? ⟨k, 5, none⟩ = some a5 ∧ w.cell? ⟨k, 6, none⟩ = some a6 :=
  ⟨h.cell 0 rfl, h.cell 1 rfl, h.cell 2 rfl, h.cell 3 rfl, h.cell 4 rfl, h.cell 5 rfl, h.cell 6 rfl⟩

def stmt2R (p : Prog) (ls : List ByteArray) (x : Stmt) : List Diag := exprsR p ls x.args ++ useR p ls x.name x.pos tNotVar [7, 2]
def block2R (p : Prog) (ls : List ByteArray) (l : List Stmt) : List Diag := l.flatMap (stmt2R p ls)
theorem block2R_take {p : Prog} {ls : List ByteArray} {l : List Stmt} {k : Nat} {x : Stmt} (h : l[k]? = some x) : block2R p ls (l.take (k + 1)) = block2R p ls (l.take k) ++ stmt2R p ls x := by
  rw [take_snoc h]; simp [block2R]
theorem block2R_take_len {p : Prog} {ls : List ByteArray} {l : List Stmt} {k : Nat} {x : Stmt} (h : l[k]? = some x) : (block2R p ls (l.take k)).length + (stmt2R p ls x).length ≤ (block2R p ls l).length := by
  have e : block2R p ls l = block2R p ls (l.take (k + 1)) ++ block2R p ls (l.drop (k + 1)) := by unfold block2R; rw [← List.flatMap_append, List.take_append_drop]
  rw [e, block2R_take h]; simp

set_option maxRecDepth 100000 in
set_option maxHeartbeats 8000000 in
theorem stmt2_any (x : Stmt) {K : CkK} {w : World} {b : Nat} {s : CkS} (h : Chk K w b s) (va vb ve : Value) (hx2 : x.kind = 2) (ha : ExprsAt K.N w va x.args) (hbo : StmtsAt K.N w vb x.body) (hel : StmtsAt K.N w ve x.els)
    (hl : s.out.length + (stmt2R K.p s.locals x).length ≤ 1000000) (hll : s.locals.length ≤ 1000000) :
    Calls Tryz.prog 77 #[.pointer (some ⟨b, 0, none⟩), .agg #[.int .i64 x.kind, .string x.name, .int .i64 x.n, va, vb, ve, .int .i64 x.pos]] w fun e w' =>
      e = .returned (.tuple #[]) ∧ Chk K w' b (s.add (stmt2R K.p s.locals x)) ∧ CMut b w w' := by
  obtain ⟨oa, ca, rfl, _, _, na⟩ := ha.slice
  obtain ⟨ob, cb, rfl, _, _, nb⟩ := hbo.slice
  obtain ⟨oe, ce, rfl, _, _, ne⟩ := hel.slice
  unfold stmt2R at hl
  rw [List.length_append] at hl
  have k1 : (x.kind == 1) = false := by rw [hx2]; rfl
  have k2 : (x.kind == 2) = true := by rw [hx2]; rfl
  have HE := Lib.hid (show stmt2R K.p s.locals x = exprsR K.p s.locals x.args ++ useR K.p s.locals x.name x.pos tNotVar [7, 2] from rfl)
  clear hx2
  go_enter Tryz.func77, Tryz.ntmps77
  go_upto_region 1 with fail
  have hWB := (Below.refl w.heap.size w).alloc (Nat.le_refl _) (.cells #[.int .i64 x.kind, .string x.name, .int .i64 x.n, .slice oa x.args.length ca, .slice ob x.body.length cb, .slice oe x.els.length ce, .int .i64 x.pos] 44)
  have hX := h.loc #[.int .i64 x.kind, .string x.name, .int .i64 x.n, .slice oa x.args.length ca, .slice ob x.body.length cb, .slice oe x.els.length ce, .int .i64 x.pos] 44
  generalize w.alloc (.cells #[.int .i64 x.kind, .string x.name, .int .i64 x.n, .slice oa x.args.length ca, .slice ob x.body.length cb, .slice oe x.els.length ce, .int .i64 x.pos] 44) = W at hX hWB ⊢
  have hC := h.later hWB
  have hM := h.mutOf hWB
  have ha' := ha.lift (hWB.mono h.lowN)
  obtain ⟨x0, x1, x2, x3, x4, x5, x6⟩ := hX.seven
  go_wp2_with fail
  go_loopw [9] (fun i wr => ∃ k : Nat, k ≤ x.args.length ∧ i = .int .i64 k ∧ Chk K wr b (s.add (exprsR K.p s.locals (x.args.take k))) ∧ CMut b W wr) (fun i _ => x.args.length - (intOf i).toNat)
  case atStart => exact ⟨0, Nat.zero_le _, rfl, hC, Mut.refl _ _ _ _⟩
  case round =>
    obtain ⟨k, hk, rfl, hCr, hMr⟩ := hrel
    rename World => wr
    clear x0 x1 x2 x3 x4 x5 x6
    by_cases hlt : k < x.args.length
    · obtain ⟨y, b', off, vy, hy, rfl, hb, hyw, hya, c0, c1, c2, c3, c4, c5⟩ := ExprsAt.at (ha'.lift (hC.keep hMr)) hlt
      have HT := Lib.hid (exprsR_take (p := K.p) (ls := s.locals) hy)
      have hlq := exprsR_take_len (p := K.p) (ls := s.locals) hy
      have hla := CkS.add_len s (exprsR K.p s.locals (x.args.take k))
      clear hy
      obtain ⟨oy, cy, rfl, _, _, _⟩ := hya.slice
      go_upto_region 4 with fail
      have hZ := (Below.refl wr.heap.size wr).alloc (Nat.le_refl _) (.cells #[.int .i64 y.kind, .string y.name, .int .i16 y.value, .int .i64 y.op, .slice oy y.args.length cy, .int .i64 y.pos] 40)
      have hY := Blk.new wr #[.int .i64 y.kind, .string y.name, .int .i16 y.value, .int .i64 y.op, .slice oy y.args.length cy, .int .i64 y.pos] 40
      generalize wr.alloc (.cells #[.int .i64 y.kind, .string y.name, .int .i16 y.value, .int .i64 y.op, .slice oy y.args.length cy, .int .i64 y.pos] 40) = Z at hY hZ ⊢
      have hCZ := hCr.later hZ
      have hMZ := hMr.trans (hCr.mutOf hZ)
      obtain ⟨y0, y1, y2, y3, y4, y5⟩ := hY.six
      clear c0 c1 c2 c3 c4 c5
      have HC := Lib.hid (expr_any (esz y + 1) y hCZ (.slice oy y.args.length cy) (Nat.lt_succ_self _) hyw (hya.lift (hZ.mono hCr.lowN)) (Nat.le_trans (Nat.add_le_add_right hla _) (by show _ + (exprR K.p s.locals y).length ≤ _; omega)) hll)
      clear hla hlq
      go_wp2_with (go_at_call 113; refine HC.out.mono ?_; rintro e w2 ⟨rfl, hC2, hM2⟩)
      have hC3 : Chk K w2 b (s.add (exprsR K.p s.locals (x.args.take (k + 1)))) := hC2.mk2 (by rw [HT.out, CkS.add_app]; rfl)
      go_roundw
      case rel => first | exact ⟨k + 1, by omega, by go_num, hC3, hMZ.trans hM2⟩ | ((repeat apply Exists.intro); exact ⟨⟨k + 1, by omega, by go_num, hC3, hMZ.trans hM2⟩, rfl⟩)
      case measure => simp [intOf]; omega
    · have hk2 : k = x.args.length := by omega
      subst hk2
      rw [List.take_length] at hCr
      have hla := CkS.add_len s (exprsR K.p s.locals x.args)
      obtain ⟨x0, x1, x2, x3, x4, x5, x6⟩ := (hX.mut hMr).seven
      have hb2 := Lib.hid (show (s.add (exprsR K.p s.locals x.args)).out.length + (useR K.p (s.add (exprsR K.p s.locals x.args)).locals x.name x.pos tNotVar [7, 2]).length ≤ 1000000 from (by show _ + (useR K.p s.locals x.name x.pos tNotVar [7, 2]).length ≤ _; omega))
      clear hla
      go_wp2_with (go_at_call 115; refine (use_any (hCr.later ((Below.refl _ _).alloc (Nat.le_refl _) _)) x.name x.pos tNotVar [7, 2] 2 rfl _ _ (hCr.loc _ _) (by decide) hb2.out hll).mono ?_; rintro e w1 ⟨rfl, hC1, hM1⟩)
      go_end0
      exact ⟨rfl, hC1.mk2 (by rw [HE.out, CkS.add_app]; rfl), (hM.trans hMr).trans ((hCr.mutOf ((Below.refl _ _).alloc (Nat.le_refl _) _)).trans hM1)⟩

set_option maxRecDepth 100000 in
set_option maxHeartbeats 8000000 in
theorem block2_any (l : List Stmt) {K : CkK} {w : World} {b : Nat} {s : CkS} (h : Chk K w b s) (vl : Value) (hx2 : ∀ x ∈ l, x.kind = 2) (ha : StmtsAt K.N w vl l)
    (hl : s.out.length + (block2R K.p s.locals l).length ≤ 1000000) (hll : s.locals.length ≤ 1000000) :
    Calls Tryz.prog 38 #[.pointer (some ⟨b, 0, none⟩), vl] w fun e w' =>
      e = .returned (.tuple #[]) ∧ Chk K w' b (s.add (block2R K.p s.locals l)) ∧ CMut b w w' := by
  obtain ⟨oa, ca, rfl, _, _, na⟩ := ha.slice
  obtain ⟨vd, vs, hk⟩ := h.ck
  obtain ⟨va', vb', q1, q2, q3, q4, _⟩ := hk.ex
  obtain rfl : vs = vb' := Option.some.inj q2
  obtain ⟨ol, cl, rfl, _, _⟩ := q4.slice
  have c8 := hk.cell (o := 8) q2
  have HX := Lib.hid hx2
  clear hx2 q1 q2 q3 q4 hk
  go_enter Tryz.func38, Tryz.ntmps38
  go_wp2_with fail
  go_loopw [14] (fun i wr => ∃ k : Nat, k ≤ l.length ∧ i = .int .i64 k ∧ Chk K wr b (s.add (block2R K.p s.locals (l.take k))) ∧ CMut b w wr) (fun i _ => l.length - (intOf i).toNat)
  case atStart => exact ⟨0, Nat.zero_le _, rfl, h, Mut.refl _ _ _ _⟩
  case round =>
    obtain ⟨k, hk, rfl, hCr, hMr⟩ := hrel
    rename World => wr
    clear c8
    by_cases hlt : k < l.length
    · obtain ⟨x, b', off, vx, vb, ve, hy, rfl, hb, hyw, hxa, hxb, hxe, c0, c1, c2, c3, c4, c5, c6⟩ := StmtsAt.at (ha.lift (h.keep hMr)) hlt
      have hx2 := Lib.hid (HX.out x (List.mem_of_getElem? hy))
      have HT := Lib.hid (block2R_take (p := K.p) (ls := s.locals) hy)
      have hlq := block2R_take_len (p := K.p) (ls := s.locals) hy
      have hla := CkS.add_len s (block2R K.p s.locals (l.take k))
      clear hy
      obtain ⟨oy, cy, rfl, _, _, _⟩ := hxa.slice
      obtain ⟨ob, cb, rfl, _, _, _⟩ := hxb.slice
      obtain ⟨oe, ce, rfl, _, _, _⟩ := hxe.slice
      go_upto_region 4 with fail
      have hZ := (Below.refl wr.heap.size wr).alloc (Nat.le_refl _) (.cells #[.int .i64 x.kind, .string x.name, .int .i64 x.n, .slice oy x.args.length cy, .slice ob x.body.length cb, .slice oe x.els.length ce, .int .i64 x.pos] 44)
      have hY := Blk.new wr #[.int .i64 x.kind, .string x.name, .int .i64 x.n, .slice oy x.args.length cy, .slice ob x.body.length cb, .slice oe x.els.length ce, .int .i64 x.pos] 44
      generalize wr.alloc (.cells #[.int .i64 x.kind, .string x.name, .int .i64 x.n, .slice oy x.args.length cy, .slice ob x.body.length cb, .slice oe x.els.length ce, .int .i64 x.pos] 44) = Z at hY hZ ⊢
      have hCZ := hCr.later hZ
      have hMZ := hMr.trans (hCr.mutOf hZ)
      obtain ⟨y0, y1, y2, y3, y4, y5, y6⟩ := hY.sev
      clear c0 c1 c2 c3 c4 c5 c6
      have hb3 : (s.add (block2R K.p s.locals (l.take k))).out.length + (stmt2R K.p s.locals x).length ≤ 1000000 := by omega
      have hlo := hZ.mono hCr.lowN
      have HC := Lib.hid (stmt2_any x hCZ _ _ _ hx2.out (hxa.lift hlo) (hxb.lift hlo) (hxe.lift hlo) hb3 hll)
      clear hla hlq hx2
      go_wp2_with (go_at_call 77; refine HC.out.mono ?_; rintro e w2 ⟨rfl, hC2, hM2⟩)
      have hC2' : Chk K w2 b ((s.add (block2R K.p s.locals (l.take k))).add (stmt2R K.p s.locals x)) := hC2
      have hC3 : Chk K w2 b (s.add (block2R K.p s.locals (l.take (k + 1)))) := hC2'.mk2 (by rw [HT.out, CkS.add_app])
      go_roundw
      case rel => first | exact ⟨k + 1, by omega, by go_num, hC3, hMZ.trans hM2⟩ | ((repeat apply Exists.intro); exact ⟨⟨k + 1, by omega, by go_num, hC3, hMZ.trans hM2⟩, rfl⟩)
      case measure => simp [intOf]; omega
    · have hk2 : k = l.length := by omega
      subst hk2
      rw [List.take_length] at hCr
      obtain ⟨vd', vs', hk'⟩ := hCr.ck
      obtain ⟨va', vb', q1, q2, q3, q4, q5⟩ := hk'.ex
      obtain rfl : vs' = vb' := Option.some.inj q2
      obtain ⟨ol', cl', rfl, _, _⟩ := q4.slice
      have c8 := hk'.cell (o := 8) q2
      have f8 := hk'.froz 8
      go_wp2_with fail
      go_end0
      have hgr : wr.grownBy wr (Value.slice ol' s.locals.length cl').ownBlock := ⟨rfl, rfl, rfl, Nat.le_refl _, fun _ _ _ => rfl⟩
      obtain ⟨r1, r2⟩ := hk'.setJ (by decide) q2 hgr q4 (fun k e => .inl e)
      exact ⟨rfl, hCr.turn r2 ⟨_, _, r1⟩, hMr.trans r2⟩
end Go.Proofs.YtkfdnlfkomhmfaaGreatDoor
