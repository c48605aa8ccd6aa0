/- limits, where no number is beyond its limit. -/
import Derived.Test.YtkfdnlfkomhmfaaGreatDoorExprC
namespace Go.Proofs.YtkfdnlfkomhmfaaGreatDoor
open Go.RowKit
set_option linter.unusedVariables false
set_option linter.unusedSimpArgs false

theorem beyond_not (n m : Int) (v : Value) (what : ByteArray) (pc : Value) (w : World) (h : n ≤ m) :
    Calls Tryz.prog 67 #[.int .i64 n, .int .i64 m, v, .string what, pc] w fun e w' => e = .returned (.tuple #[]) ∧ w' = w := by
  go_enter Tryz.func67, Tryz.ntmps67
  go_wp2_with fail
  go_end0
  exact ⟨rfl, rfl⟩

set_option maxRecDepth 100000 in
set_option maxHeartbeats 4000000 in
theorem limits_in {K : CkK} {w : World} {b : Nat} {s : CkS} (h : Chk K w b s) (h1 : K.p.globals.length ≤ 32) (h2 : K.p.sensors.length ≤ 8) (h3 : K.p.outputs.length ≤ 8) (h4 : K.p.channels.length ≤ 8) (h5 : K.p.tasks.length ≤ 8) :
    Calls Tryz.prog 34 #[.pointer (some ⟨b, 0, none⟩)] w fun e w' => e = .returned (.tuple #[]) ∧ Chk K w' b s ∧ CMut b w w' := by
  obtain ⟨v0, v1, v2, v3, v4, v5, m, N, B, p⟩ := K
  obtain ⟨vl, vs, hk⟩ := h.ck
  have hp := h.prog
  simp only at hp h1 h2 h3 h4 h5 hk
  obtain ⟨o0, q0, rfl, _, _, n0⟩ := SliceAt.slice hp.consts
  obtain ⟨o1, q1, rfl, _, _, n1⟩ := SliceAt.slice hp.globals
  obtain ⟨o2, q2, rfl, _, _, n2⟩ := SliceAt.slice hp.sensors
  obtain ⟨o3, q3, rfl, _, _, n3⟩ := SliceAt.slice hp.outputs
  obtain ⟨o4, q4, rfl, _, _, n4⟩ := SliceAt.slice hp.channels
  obtain ⟨o5, q5, rfl, _, _, n5⟩ := hp.tasks.slice
  have eg : ∀ args w, (callFunc 67 args).run Tryz.prog w = .ok (.enter 67 args) w := enters_of Tryz.func67 (by kernel_rfl) rfl
  go_enter Tryz.func34, Tryz.ntmps34
  go_upto_region 1 with fail
  have hA := Blk.new w #[.pointer (some ⟨b, 0, none⟩)] 71
  have hWB := (Below.refl w.heap.size w).alloc (Nat.le_refl _) (.cells #[.pointer (some ⟨b, 0, none⟩)] 71)
  generalize w.alloc (.cells #[.pointer (some ⟨b, 0, none⟩)] 71) = W at hA hWB ⊢
  have hkW := hk.later hWB
  have a0 := hA.cell 0 rfl
  have c0 := hkW.cell (o := 0) rfl
  have c1 := hkW.cell (o := 1) rfl
  have c2 := hkW.cell (o := 2) rfl
  have c3 := hkW.cell (o := 3) rfl
  have c4 := hkW.cell (o := 4) rfl
  have c5 := hkW.cell (o := 5) rfl
  go_upto_region 2 with fail
  have hP := Blk.new W #[.slice o0 p.consts.length q0, .slice o1 p.globals.length q1, .slice o2 p.sensors.length q2, .slice o3 p.outputs.length q3, .slice o4 p.channels.length q4, .slice o5 p.tasks.length q5] 28
  have hWZ := (Below.refl W.heap.size W).alloc (Nat.le_refl _) (.cells #[.slice o0 p.consts.length q0, .slice o1 p.globals.length q1, .slice o2 p.sensors.length q2, .slice o3 p.outputs.length q3, .slice o4 p.channels.length q4, .slice o5 p.tasks.length q5] 28)
  generalize W.alloc (.cells #[.slice o0 p.consts.length q0, .slice o1 p.globals.length q1, .slice o2 p.sensors.length q2, .slice o3 p.outputs.length q3, .slice o4 p.channels.length q4, .slice o5 p.tasks.length q5] 28) = Z at hP hWZ ⊢
  clear c0 c1 c2 c3 c4 c5 a0
  have p1 := hP.cell 1 rfl
  have p2 := hP.cell 2 rfl
  have p3 := hP.cell 3 rfl
  have p4 := hP.cell 4 rfl
  have p5 := hP.cell 5 rfl
  go_wp2_with (go_at_call 67; refine (beyond_not _ _ _ _ _ _ (by omega)).mono ?_; rintro e w1 ⟨rfl, rfl⟩)
  go_end0
  have hB := hWB.trans (hWZ.mono hWB.size)
  exact ⟨rfl, h.later hB, h.mutOf hB⟩
end Go.Proofs.YtkfdnlfkomhmfaaGreatDoor
