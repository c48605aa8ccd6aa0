/- The law CheckLookup: it answers true. -/
import Derived.Test.YtkfdnlfkomhmfaaGreatDoorExam
namespace Go.Proofs.YtkfdnlfkomhmfaaGreatDoor
open Go.RowKit
set_option linter.unusedVariables false
set_option linter.unusedSimpArgs false

set_option maxRecDepth 100000 in
set_option maxHeartbeats 4000000 in
theorem lawLookup_any (p : Prog) (s : ByteArray) (v0 v1 v2 v3 v4 v5 : Value) (N : Nat) (w : World) (hp : ProgAt N w v0 v1 v2 v3 v4 v5 p) (hN : N ≤ w.heap.size) (hT : Tabs w) (hts : ∀ t ∈ p.tasks, sszs t.body ≤ 1048576) :
    Calls Tryz.prog 4 #[.agg #[v0, v1, v2, v3, v4, v5], .string s] w fun e w' => e = .returned (.bool true) ∧ Below w.heap.size w w' := by
  obtain ⟨o0, q0, rfl, _, _, n0⟩ := SliceAt.slice hp.consts
  obtain ⟨o1, q1, rfl, _, _, n1⟩ := SliceAt.slice hp.globals
  obtain ⟨o2, q2, rfl, _, _, n2⟩ := SliceAt.slice hp.sensors
  obtain ⟨o3, q3, rfl, _, _, n3⟩ := SliceAt.slice hp.outputs
  obtain ⟨o4, q4, rfl, _, _, n4⟩ := SliceAt.slice hp.channels
  obtain ⟨o5, q5, rfl, _, _, n5⟩ := hp.tasks.slice
  have HTS := Lib.hid hts
  clear hts
  have HLV := Lib.hid (show lookV (namesOf p) s = .tuple #[.int .i64 (lookK (namesOf p) s), .int .i64 (lookI (namesOf p) s), .bool (lookB (namesOf p) s)] from rfl)
  generalize lookK (namesOf p) s = K at HLV
  generalize lookI (namesOf p) s = I at HLV
  generalize lookB (namesOf p) s = Bk at HLV
  go_enter Tryz.func4, Tryz.ntmps4
  go_upto_region 1 with fail
  have hA := Blk.new w #[.slice o0 p.consts.length q0, .slice o1 p.globals.length q1, .slice o2 p.sensors.length q2, .slice o3 p.outputs.length q3, .slice o4 p.channels.length q4, .slice o5 p.tasks.length q5] 28
  have hWB := (Below.refl w.heap.size w).alloc (Nat.le_refl _) (.cells #[.slice o0 p.consts.length q0, .slice o1 p.globals.length q1, .slice o2 p.sensors.length q2, .slice o3 p.outputs.length q3, .slice o4 p.channels.length q4, .slice o5 p.tasks.length q5] 28)
  generalize w.alloc (.cells #[.slice o0 p.consts.length q0, .slice o1 p.globals.length q1, .slice o2 p.sensors.length q2, .slice o3 p.outputs.length q3, .slice o4 p.channels.length q4, .slice o5 p.tasks.length q5] 28) = W at hA hWB ⊢
  obtain ⟨a0, a1, a2, a3, a4, a5⟩ := hA.six
  have hp' := hp.lift (hWB.mono hN)
  have hNW := Nat.le_trans hN hWB.size
  have HTW := Lib.hid (hT.later hWB)
  have HSM := Lib.hid (Small_any p _ _ _ _ _ _ N _ hp' hNW (fun t ht => Nat.le_trans (HTS.out t ht) (by omega)))
  clear hT hp
  cases hsm : smallB p
  · rw [hsm] at HSM
    clear hsm
    go_wp2_with (first
      | (go_at_call 10; refine HSM.out.mono ?_; rintro e w1 ⟨rfl, hB1⟩)
      | (go_at_call 11; refine (examples_any _ (HTW.out.later hB1)).mono ?_; rintro e w2 ⟨rfl, hB2⟩))
    go_ret
    exact ⟨rfl, hWB.trans ((hB1.trans (hB2.mono hB1.size)).mono hWB.size)⟩
  · rw [hsm] at HSM
    clear hsm
    cases Bk
    all_goals
      go_wp2_with (first
        | (go_at_call 10; refine HSM.out.mono ?_; rintro e w1 ⟨rfl, hB1⟩; have hp1 := hp'.lift (hB1.mono hNW); have hN1 := Nat.le_trans hNW hB1.size; have hA1 := hA.later hB1; obtain ⟨b0, b1, b2, b3, b4, b5⟩ := hA1.six)
        | (go_at_call 15; refine (Lookup_any p _ _ _ _ _ _ _ N _ hp1 hN1).mono ?_; rintro e w2 ⟨rfl, hB2⟩; rw [HLV.out]; have hp2 := hp1.lift (hB2.mono hN1); have hN2 := Nat.le_trans hN1 hB2.size; have hA2 := hA1.later hB2; obtain ⟨c0, c1, c2, c3, c4, c5⟩ := hA2.six)
        | (go_at_call 16; refine (rLookup_any p _ _ _ _ _ _ _ N _ hp2 hN2).mono ?_; rintro e w3 ⟨rfl, hB3⟩; rw [HLV.out])
        | (go_at_call 11; refine (examples_any _ (((HTW.out.later hB1).later hB2).later hB3)).mono ?_; rintro e w4 ⟨rfl, hB4⟩))
      go_ret
      exact ⟨rfl, hWB.trans ((hB1.trans ((hB2.trans ((hB3.trans (hB4.mono hB3.size)).mono hB2.size)).mono hB1.size)).mono hWB.size)⟩
end Go.Proofs.YtkfdnlfkomhmfaaGreatDoor
