/- The law CheckConstValue: it answers true. -/
import Derived.Test.YtkfdnlfkomhmfaaGreatDoorExam
import Derived.Test.YtkfdnlfkomhmfaaGreatDoorConstR
namespace Go.Proofs.YtkfdnlfkomhmfaaGreatDoor
open Go.RowKit
set_option linter.unusedVariables false
set_option linter.unusedSimpArgs false

def oneS (x : Expr) : Stmt := ⟨0, emp, 0, [x], [], [], 0⟩
theorem one_stmt {N be bs : Nat} {w : World} {x : Expr} {va : Value} {T T' : TypeId} (kE : Blk w be #[.int .i64 x.kind, .string x.name, .int .i16 x.value, .int .i64 x.op, va, .int .i64 x.pos] T)
    (kS : Blk w bs #[.int .i64 0, .string ⟨#[]⟩, .int .i64 0, .slice (some ⟨be, 0, none⟩) 1 1, .slice none 0 0, .slice none 0 0, .int .i64 0] T') (hw : x.Wf) (ha : ExprsAt N w va x.args) (ne : be < N) (ns : bs < N) :
    StmtsAt N w (.slice (some ⟨bs, 0, none⟩) 1 1) [oneS x] := by
  have hex : ExprsAt N w (.slice (some ⟨be, 0, none⟩) 1 1) [x] := by
    refine .mk _ _ (fun _ => va) (one_slice kE ne rfl _ rfl) (fun i hi => ?_) (fun i hi => ?_)
    · have : i = 0 := by simpa using hi
      subst this
      exact hw
    · have : i = 0 := by simpa using hi
      subst this
      exact ha
  refine .mk _ _ (fun _ => .slice (some ⟨be, 0, none⟩) 1 1) (fun _ => .slice none 0 0) (fun _ => .slice none 0 0) (one_slice kS ns rfl _ rfl) (fun i hi => ?_) (fun i hi => ?_) (fun i hi => ?_) (fun i hi => ?_)
  all_goals
    have : i = 0 := by simpa using hi
    subst this
  · exact ⟨by show -9223372036854775808 ≤ (0 : Int) ∧ (0 : Int) ≤ 9223372036854775807; omega, show Str emp from small_str (by decide), by show -9223372036854775808 ≤ (0 : Int) ∧ (0 : Int) ≤ 9223372036854775807; omega, by show -9223372036854775808 ≤ (0 : Int) ∧ (0 : Int) ≤ 9223372036854775807; omega⟩
  · exact hex
  · exact nil_stmts _ _
  · exact nil_stmts _ _
theorem oneS_sz (x : Expr) : sszs [oneS x] = 1 + esz x := by simp [sszs, oneS, ssz_eq, eszs, emp, ByteArray.size]

set_option maxRecDepth 100000 in
set_option maxHeartbeats 4000000 in
theorem lawConst_any (p : Prog) (x : Expr) (v0 v1 v2 v3 v4 v5 va : Value) (N : Nat) (w : World) (hp : ProgAt N w v0 v1 v2 v3 v4 v5 p) (hx : x.Wf) (ha : ExprsAt N w va x.args) (hN : N ≤ w.heap.size) (hT : Tabs w) (hts : ∀ t ∈ p.tasks, sszs t.body ≤ 1048576) (hxs : esz x ≤ 1048576) :
    Calls Tryz.prog 5 #[.agg #[v0, v1, v2, v3, v4, v5], .agg #[.int .i64 x.kind, .string x.name, .int .i16 x.value, .int .i64 x.op, va, .int .i64 x.pos]] w fun e w' => e = .returned (.bool true) ∧ Below w.heap.size w w' := by
  obtain ⟨o0, q0, rfl, _, _, n0⟩ := SliceAt.slice hp.consts
  obtain ⟨o1, q1, rfl, _, _, n1⟩ := SliceAt.slice hp.globals
  obtain ⟨o2, q2, rfl, _, _, n2⟩ := SliceAt.slice hp.sensors
  obtain ⟨o3, q3, rfl, _, _, n3⟩ := SliceAt.slice hp.outputs
  obtain ⟨o4, q4, rfl, _, _, n4⟩ := SliceAt.slice hp.channels
  obtain ⟨o5, q5, rfl, _, _, n5⟩ := hp.tasks.slice
  obtain ⟨oa, ca, rfl, _, _, na⟩ := ha.slice
  have HTS := Lib.hid hts
  have HX := Lib.hid hx
  have HXS := Lib.hid hxs
  clear hts hx hxs
  go_enter Tryz.func5, Tryz.ntmps5
  go_upto_region 1 with fail
  obtain ⟨hA, hX⟩ := Blk.two w #[.slice o0 p.consts.length q0, .slice o1 p.globals.length q1, .slice o2 p.sensors.length q2, .slice o3 p.outputs.length q3, .slice o4 p.channels.length q4, .slice o5 p.tasks.length q5] 28 #[.int .i64 x.kind, .string x.name, .int .i16 x.value, .int .i64 x.op, .slice oa x.args.length ca, .int .i64 x.pos] 40
  have hWB := below_two w (.cells #[.slice o0 p.consts.length q0, .slice o1 p.globals.length q1, .slice o2 p.sensors.length q2, .slice o3 p.outputs.length q3, .slice o4 p.channels.length q4, .slice o5 p.tasks.length q5] 28) (.cells #[.int .i64 x.kind, .string x.name, .int .i16 x.value, .int .i64 x.op, .slice oa x.args.length ca, .int .i64 x.pos] 40)
  generalize (w.alloc (.cells #[.slice o0 p.consts.length q0, .slice o1 p.globals.length q1, .slice o2 p.sensors.length q2, .slice o3 p.outputs.length q3, .slice o4 p.channels.length q4, .slice o5 p.tasks.length q5] 28)).alloc (.cells #[.int .i64 x.kind, .string x.name, .int .i16 x.value, .int .i64 x.op, .slice oa x.args.length ca, .int .i64 x.pos] 40) = W at hA hX hWB ⊢
  obtain ⟨a0, a1, a2, a3, a4, a5⟩ := hA.six
  obtain ⟨x0, x1, x2, x3, x4, x5⟩ := hX.six
  have hp' := hp.lift (hWB.mono hN)
  have ha' := ha.lift (hWB.mono hN)
  have hNW := Nat.le_trans hN hWB.size
  have HTW := Lib.hid (hT.later hWB)
  have HSM := Lib.hid (Small_any p _ _ _ _ _ _ N _ hp' hNW (fun t ht => Nat.le_trans (HTS.out t ht) (by omega)))
  clear hT hp ha
  cases hsm : smallB p
  · rw [hsm] at HSM
    clear hsm
    go_wp2_with (first
      | (go_at_call 10; refine HSM.out.mono ?_; rintro e w1 ⟨rfl, hB1⟩)
      | (go_at_call 11; refine (examples_any _ (HTW.out.later hB1)).mono ?_; rintro e w2 ⟨rfl, hB2⟩))
    go_ret
    exact ⟨rfl, hWB.trans ((hB1.trans (hB2.mono hB1.size)).mono hWB.size)⟩
  · rw [hsm] at HSM
    clear hsm
    have HSZ : Hid (∀ (w1 : World), Below W.heap.size W w1 → Calls Tryz.prog 17 #[.slice (some ⟨w1.heap.size + 1, 0, none⟩) 1 1] ((w1.alloc (.cells #[.int .i64 x.kind, .string x.name, .int .i16 x.value, .int .i64 x.op, .slice oa x.args.length ca, .int .i64 x.pos] 40)).alloc (.cells #[.int .i64 0, .string ⟨#[]⟩, .int .i64 0, .slice (some ⟨w1.heap.size, 0, none⟩) 1 1, .slice none 0 0, .slice none 0 0, .int .i64 0] 44)) fun e w' => e = .returned (.int .i64 ((1 + esz x : Nat) : Int)) ∧ Below w1.heap.size w1 w') := Lib.hid fun w1 hB1 => by
      obtain ⟨kE, kS⟩ := Blk.two w1 #[.int .i64 x.kind, .string x.name, .int .i16 x.value, .int .i64 x.op, .slice oa x.args.length ca, .int .i64 x.pos] 40 #[.int .i64 0, .string ⟨#[]⟩, .int .i64 0, .slice (some ⟨w1.heap.size, 0, none⟩) 1 1, .slice none 0 0, .slice none 0 0, .int .i64 0] 44
      have hb2 := below_two w1 (.cells #[.int .i64 x.kind, .string x.name, .int .i16 x.value, .int .i64 x.op, .slice oa x.args.length ca, .int .i64 x.pos] 40) (.cells #[.int .i64 0, .string ⟨#[]⟩, .int .i64 0, .slice (some ⟨w1.heap.size, 0, none⟩) 1 1, .slice none 0 0, .slice none 0 0, .int .i64 0] 44)
      have hargs := ((ha'.lift (hB1.mono hNW)).lift (hb2.mono (Nat.le_trans hNW hB1.size))).mono (show N ≤ w1.heap.size + 2 by have := hB1.size; omega)
      have := Size_any _ [oneS x] _ (w1.heap.size + 2) _ (Nat.lt_succ_self _) (one_stmt kE kS HX.out hargs (by omega) (by omega)) (by simp) (by rw [oneS_sz]; have := HXS.out; omega)
      rw [oneS_sz] at this
      exact this.mono fun e w' ⟨h1, h2⟩ => ⟨h1, hb2.trans (h2.mono hb2.size)⟩
    by_cases hbig : 500 < 1 + esz x
    · go_wp2_with (first
        | (go_at_call 10; refine HSM.out.mono ?_; rintro e w1 ⟨rfl, hB1⟩; obtain ⟨x0, x1, x2, x3, x4, x5⟩ := (hX.later hB1).six)
        | (go_at_call 17; refine (HSZ.out _ hB1).mono ?_; rintro e w2 ⟨rfl, hB2⟩)
        | (go_at_call 11; refine (examples_any _ ((HTW.out.later hB1).later hB2)).mono ?_; rintro e w3 ⟨rfl, hB3⟩))
      go_ret
      exact ⟨rfl, hWB.trans ((hB1.trans ((hB2.trans (hB3.mono hB2.size)).mono hB1.size)).mono hWB.size)⟩
    · have HCV : Hid (∀ w1, Below W.heap.size W w1 → Calls Tryz.prog 18 #[.agg #[.slice o0 p.consts.length q0, .slice o1 p.globals.length q1, .slice o2 p.sensors.length q2, .slice o3 p.outputs.length q3, .slice o4 p.channels.length q4, .slice o5 p.tasks.length q5], .agg #[.int .i64 x.kind, .string x.name, .int .i16 x.value, .int .i64 x.op, .slice oa x.args.length ca, .int .i64 x.pos]] w1 fun e w' => e = .returned (.tuple #[.int .i16 (constV p x).1, .bool (constV p x).2]) ∧ Below w1.heap.size w1 w') := Lib.hid fun w1 hB =>
        (ConstValue_any p (esz x + 1) x _ _ _ _ _ _ _ N w1 (Nat.lt_succ_self _) (hp'.lift (hB.mono hNW)) HX.out (ha'.lift (hB.mono hNW)) (Nat.le_trans hNW hB.size)).mono fun e w' ⟨⟨h1, _⟩, h2⟩ => ⟨h1, h2⟩
      have HRV : Hid (∀ w1, Below W.heap.size W w1 → Calls Tryz.prog 19 #[.agg #[.slice o0 p.consts.length q0, .slice o1 p.globals.length q1, .slice o2 p.sensors.length q2, .slice o3 p.outputs.length q3, .slice o4 p.channels.length q4, .slice o5 p.tasks.length q5], .agg #[.int .i64 x.kind, .string x.name, .int .i16 x.value, .int .i64 x.op, .slice oa x.args.length ca, .int .i64 x.pos]] w1 fun e w' => e = .returned (.tuple #[.int .i16 (constV p x).1, .bool (constV p x).2]) ∧ Below w1.heap.size w1 w') := Lib.hid fun w1 hB =>
        rConstValue_any p (esz x + 1) x _ _ _ _ _ _ _ N w1 (Nat.lt_succ_self _) (hp'.lift (hB.mono hNW)) HX.out (ha'.lift (hB.mono hNW)) (Nat.le_trans hNW hB.size)
      generalize (constV p x).1 = cv at HCV HRV
      generalize (constV p x).2 = cb at HCV HRV
      clear hp' ha'
      cases cb
      all_goals
        go_wp2_with (first
          | (go_at_call 10; refine HSM.out.mono ?_; rintro e w1 ⟨rfl, hB1⟩; obtain ⟨x0, x1, x2, x3, x4, x5⟩ := (hX.later hB1).six)
          | (go_at_call 17; refine (HSZ.out _ hB1).mono ?_; rintro e w2 ⟨rfl, hB2⟩; have hB12 := hB1.trans (hB2.mono hB1.size); obtain ⟨x0, x1, x2, x3, x4, x5⟩ := (hX.later hB12).six; obtain ⟨a0, a1, a2, a3, a4, a5⟩ := (hA.later hB12).six)
          | (go_at_call 18; refine (HCV.out _ hB12).mono ?_; rintro e w3 ⟨rfl, hB3⟩; have hB13 := hB12.trans (hB3.mono hB12.size); obtain ⟨x0, x1, x2, x3, x4, x5⟩ := (hX.later hB13).six; obtain ⟨a0, a1, a2, a3, a4, a5⟩ := (hA.later hB13).six)
          | (go_at_call 19; refine (HRV.out _ hB13).mono ?_; rintro e w4 ⟨rfl, hB4⟩; have hB14 := hB13.trans (hB4.mono hB13.size))
          | (go_at_call 11; refine (examples_any _ (HTW.out.later hB14)).mono ?_; rintro e w5 ⟨rfl, hB5⟩))
        go_ret
        exact ⟨rfl, hWB.trans ((hB14.trans (hB5.mono hB14.size)).mono hWB.size)⟩
end Go.Proofs.YtkfdnlfkomhmfaaGreatDoor
