/- The checker's task, where the task has no channel and no parameter. -/
import Derived.Test.YtkfdnlfkomhmfaaGreatDoorNamC
import Derived.Test.YtkfdnlfkomhmfaaGreatDoorTask
import Derived.Test.YtkfdnlfkomhmfaaGreatDoorTail
namespace Go.Proofs.YtkfdnlfkomhmfaaGreatDoor
open Go.RowKit
set_option linter.unusedVariables false
set_option linter.unusedSimpArgs false

theorem Lcl.eight {i j b : Nat} {w : World} {k : Nat} {a0 a1 a2 a3 a4 a5 a6 a7 : Value} {T : TypeId} (h : Lcl i j b w k #[a0, a1, a2, a3, a4, a5, a6, a7] T) :
    w.cell? ⟨k, 1, none⟩ = some a1 ∧ w.cell? ⟨k, 2, none⟩ = some a2 ∧ w.cell? ⟨k, 3, none⟩ = some a3 ∧ w.cell? ⟨k, 4, none⟩ = some a4 ∧ w.cell? ⟨k, 5, none⟩ = some a5 ∧ w.cell? ⟨k, 7, none⟩ = some a7 :=
  ⟨h.cell rfl, h.cell rfl, h.cell rfl, h.cell rfl, h.cell rfl, h.cell rfl⟩
def taskR (p : Prog) (i : Nat) (t : Task) : List Diag :=
  (if t.channel = emp then rep (!decide (1 ≤ t.period ∧ t.period ≤ 32767) || decide (t.param ≠ emp)) t.pos tTrig
    else rep ((t.period != 0) || decide (t.param = emp)) t.pos tTrig ++ (rep (!(p.channels.any fun h => decide (h.name = t.channel))) t.pos tUnkChan ++ rep ((p.tasks.take i).any fun u => decide (u.channel = t.channel)) t.pos tSecond)) ++
  (rep (!decide (0 ≤ t.deadline ∧ t.deadline ≤ 32767)) t.pos tDeadline ++
    (rep (!decide (0 ≤ t.within ∧ t.within ≤ 32767) || ((t.within != 0) && decide (t.channel = emp))) t.pos tWithin ++
      (if t.param = emp then [] else rep (lookB (namesOf p) t.param) t.pos tDup)))
theorem taskR_len (p : Prog) (i : Nat) (t : Task) : (taskR p i t).length ≤ 6 := by
  unfold taskR
  have h1 := rep_len (!decide (1 ≤ t.period ∧ t.period ≤ 32767) || decide (t.param ≠ emp)) t.pos tTrig
  have h2 := rep_len ((t.period != 0) || decide (t.param = emp)) t.pos tTrig
  have h3 := rep_len (!(p.channels.any fun h => decide (h.name = t.channel))) t.pos tUnkChan
  have h4 := rep_len ((p.tasks.take i).any fun u => decide (u.channel = t.channel)) t.pos tSecond
  have h5 := rep_len (!decide (0 ≤ t.deadline ∧ t.deadline ≤ 32767)) t.pos tDeadline
  have h6 := rep_len (!decide (0 ≤ t.within ∧ t.within ≤ 32767) || ((t.within != 0) && decide (t.channel = emp))) t.pos tWithin
  have h7 := rep_len (lookB (namesOf p) t.param) t.pos tDup
  simp only [List.length_append]
  split <;> split <;> (try simp only [List.length_append, List.length_nil]) <;> omega

set_option maxRecDepth 100000 in
set_option maxHeartbeats 8000000 in
theorem task_in {K : CkK} {w : World} {b : Nat} {s : CkS} (h : Chk K w b s) (i : Nat) (t : Task) (ht : K.p.tasks[i]? = some t) (hch : t.channel = emp) (hpa : t.param = emp) (hl : s.out.length + 6 ≤ 1000000) :
    Calls Tryz.prog 37 #[.pointer (some ⟨b, 0, none⟩), .int .i64 i] w fun e w' => e = .returned (.tuple #[]) ∧ Chk K w' b (s.add (taskR K.p i t)) ∧ CMut b w w' := by
  obtain ⟨vl, vs, hk⟩ := h.ck
  have hp := h.prog
  have hlt : i < K.p.tasks.length := (List.getElem?_eq_some_iff.1 ht).1
  obtain ⟨o5, q5, e5, _, _, n5⟩ := hp.tasks.slice
  have htk := hp.tasks
  rw [e5] at htk
  obtain ⟨t', bt, off, vb, ht', rfl, hbt, hwf, hbo, z0, z1, z2, z3, z4, z5, z6, z7⟩ := TasksAt.at htk hlt
  obtain rfl : t' = t := Option.some.inj (ht'.symm.trans ht)
  obtain ⟨ob, cb, rfl, _, _, _⟩ := hbo.slice
  have c5 := hk.cell (o := 5) rfl
  rw [e5] at c5
  have em1 : t'.channel.toList.isEmpty = true := by rw [isEmp, hch]; rfl
  have em2 : t'.param.toList.isEmpty = true := by rw [isEmp, hpa]; rfl
  have hR : taskR K.p i t' = rep (!decide (1 ≤ t'.period ∧ t'.period ≤ 32767)) t'.pos tTrig ++ (rep (!decide (0 ≤ t'.deadline ∧ t'.deadline ≤ 32767)) t'.pos tDeadline ++ rep (!decide (0 ≤ t'.within ∧ t'.within ≤ 32767) || (t'.within != 0)) t'.pos tWithin) := by
    simp [taskR, hch, hpa]
  have hin1 := fun w => within_any t'.period 1 32767 w
  have hin2 := fun w => within_any t'.deadline 0 32767 w
  have hin3 := fun w => within_any t'.within 0 32767 w
  generalize decide (1 ≤ t'.period ∧ t'.period ≤ 32767) = b1 at hin1 hR
  generalize decide (0 ≤ t'.deadline ∧ t'.deadline ≤ 32767) = b2 at hin2 hR
  generalize decide (0 ≤ t'.within ∧ t'.within ≤ 32767) = b3 at hin3 hR
  generalize hb4 : (t'.within != 0) = b4 at hR
  have HR := Lib.hid hR
  have HI1 := Lib.hid hin1
  have HI2 := Lib.hid hin2
  have HI3 := Lib.hid hin3
  clear hR hin1 hin2 hin3 hch hpa ht ht' hk hwf
  go_enter Tryz.func37, Tryz.ntmps37
  go_upto_region 1 with fail
  have hZ := (Below.refl w.heap.size w).alloc (Nat.le_refl _) (.cells #[.string t'.name, .int .i64 t'.period, .int .i64 t'.deadline, .string t'.channel, .string t'.param, .int .i64 t'.within, .slice ob t'.body.length cb, .int .i64 t'.pos] 53)
  have hY := h.loc #[.string t'.name, .int .i64 t'.period, .int .i64 t'.deadline, .string t'.channel, .string t'.param, .int .i64 t'.within, .slice ob t'.body.length cb, .int .i64 t'.pos] 53
  generalize w.alloc (.cells #[.string t'.name, .int .i64 t'.period, .int .i64 t'.deadline, .string t'.channel, .string t'.param, .int .i64 t'.within, .slice ob t'.body.length cb, .int .i64 t'.pos] 53) = Z at hY hZ ⊢
  have hCZ := h.later hZ
  have hMZ := h.mutOf hZ
  obtain ⟨y1, y2, y3, y4, y5, y7⟩ := hY.eight
  clear z0 z1 z2 z3 z4 z5 z6 z7 c5
  go_upto_region 2 with fail
  cases b1 <;> cases b3 <;> cases b4
  all_goals
    have HC := Lib.hid hCZ
    have HM := Lib.hid hMZ
    have HY := Lib.hid hY
    clear hCZ hMZ hY
    refine wp_region_tailq 12 mixed (by kernel_rfl) ?_
    simp only [List.take_succ_cons, List.take_zero, List.drop_succ_cons, List.drop_zero]
    repeat (first | go_big_quiet_step (fail) | (go_big_quiet_want; go_big_quiet_op; apply Exists.intro; refine ⟨HI1.out _, ?_⟩; go_big_quiet_on))
    refine wpQuiet_nil ?_
    have hCD := HC.out.later ((Below.refl Z.heap.size Z).drew)
    have hMD := HM.out.trans (HC.out.mutOf ((Below.refl Z.heap.size Z).drew))
    have hYD := HY.out.mut (HC.out.mutOf ((Below.refl Z.heap.size Z).drew))
    change wpList _ _ _ _ _ Z.drew
    clear HC HM HY y1 y2 y3 y4 y5 y7
    go_wp2_with (go_at_call 68; refine (report_l hCD _ _ _ (by omega)).mono ?_; rintro e w1 ⟨rfl, hC3, hM3, hl3⟩; have hY3 := hYD.mut hM3; have hM3' := hMD.trans hM3; have HC := Lib.hid hC3; have HM := Lib.hid hM3'; have HY := Lib.hid hY3; skip; clear hCD hMD hYD hC3 hM3 hY3 hM3')
    generalize hst : CkS.add _ _ = st1 at hl3 HC
    have HST1 := Lib.hid hst
    have hlen1 : st1.out.length ≤ s.out.length + 1 := by omega
    clear hst hl3
    clear hZ
    rename World => Z
    obtain ⟨y1, y2, y3, y4, y5, y7⟩ := HY.out.eight
    refine wp_region_tailq 7 mixed (by kernel_rfl) ?_
    simp only [List.take_succ_cons, List.take_zero, List.drop_succ_cons, List.drop_zero]
    repeat (first | go_big_quiet_step (fail) | (go_big_quiet_want; go_big_quiet_op; apply Exists.intro; refine ⟨HI2.out _, ?_⟩; go_big_quiet_on))
    refine wpQuiet_nil ?_
    have hCD := HC.out.later ((Below.refl Z.heap.size Z).drew)
    have hMD := HM.out.trans (HC.out.mutOf ((Below.refl Z.heap.size Z).drew))
    have hYD := HY.out.mut (HC.out.mutOf ((Below.refl Z.heap.size Z).drew))
    change wpList _ _ _ _ _ Z.drew
    clear HC HM HY y1 y2 y3 y4 y5 y7
    go_wp2_with (go_at_call 68; refine (report_l hCD _ _ _ (by omega)).mono ?_; rintro e w2 ⟨rfl, hC3, hM3, hl3⟩; have hY3 := hYD.mut hM3; have hM3' := hMD.trans hM3; have HC := Lib.hid hC3; have HM := Lib.hid hM3'; have HY := Lib.hid hY3; skip; clear hCD hMD hYD hC3 hM3 hY3 hM3')
    generalize hst : CkS.add _ _ = st2 at hl3 HC
    have HST2 := Lib.hid hst
    have hlen2 : st2.out.length ≤ s.out.length + 2 := by omega
    clear hst hl3
    rename World => Z
    obtain ⟨y1, y2, y3, y4, y5, y7⟩ := HY.out.eight
    refine wp_region_tailq 17 mixed (by kernel_rfl) ?_
    simp only [List.take_succ_cons, List.take_zero, List.drop_succ_cons, List.drop_zero]
    repeat (first | go_big_quiet_step (fail) | (go_big_quiet_want; go_big_quiet_op; apply Exists.intro; refine ⟨HI3.out _, ?_⟩; go_big_quiet_on))
    refine wpQuiet_nil ?_
    have hCD := HC.out.later ((Below.refl Z.heap.size Z).drew)
    have hMD := HM.out.trans (HC.out.mutOf ((Below.refl Z.heap.size Z).drew))
    have hYD := HY.out.mut (HC.out.mutOf ((Below.refl Z.heap.size Z).drew))
    change wpList _ _ _ _ _ Z.drew
    clear HC HM HY y1 y2 y3 y4 y5 y7
    go_wp2_with (go_at_call 68; refine (report_l hCD _ _ _ (by omega)).mono ?_; rintro e w3 ⟨rfl, hC3, hM3, hl3⟩; have hY3 := hYD.mut hM3; have hM3' := hMD.trans hM3; have HC := Lib.hid hC3; have HM := Lib.hid hM3'; have HY := Lib.hid hY3; obtain ⟨z1, z2, z3, y4, z5, z7⟩ := hY3.eight; clear hCD hMD hYD hC3 hM3 hY3 hM3')
    go_end0
    exact ⟨rfl, HC.out.mk2 (by rw [HR.out]; simp only [CkS.add_app]; rw [← HST2.out, ← HST1.out]; rfl), HM.out⟩
end Go.Proofs.YtkfdnlfkomhmfaaGreatDoor
