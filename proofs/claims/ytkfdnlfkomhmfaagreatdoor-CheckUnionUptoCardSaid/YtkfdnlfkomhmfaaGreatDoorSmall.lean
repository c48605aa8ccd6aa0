/- Small: the size of a program. -/
import Derived.Test.YtkfdnlfkomhmfaaGreatDoorLookR
import Derived.Test.YtkfdnlfkomhmfaaGreatDoorSize2
import Derived.Test.YtkfdnlfkomhmfaaGreatDoorWell
namespace Go.Proofs.YtkfdnlfkomhmfaaGreatDoor
open Go.RowKit
set_option linter.unusedVariables false
set_option linter.unusedSimpArgs false

def nameSz : List Decl → Nat
  | [] => 0
  | d :: l => 1 + d.name.size + nameSz l
def tsz (t : Task) : Nat := t.channel.size + t.param.size + sszs t.body
def taskSz : List Task → Nat
  | [] => 0
  | t :: l => tsz t + taskSz l
def smallB (p : Prog) : Bool := decide (nameSz (namesOf p) + taskSz p.tasks ≤ 1500)
theorem nameSz_append (a b : List Decl) : nameSz (a ++ b) = nameSz a + nameSz b := by
  induction a with
  | nil => simp [nameSz]
  | cons x a ih => simp [nameSz, ih]; omega
theorem taskSz_append (a b : List Task) : taskSz (a ++ b) = taskSz a + taskSz b := by
  induction a with
  | nil => simp [taskSz]
  | cons x a ih => simp [taskSz, ih]; omega
theorem nameSz_take {l : List Decl} {k : Nat} {x : Decl} (h : l[k]? = some x) : nameSz (l.take (k + 1)) = nameSz (l.take k) + (1 + x.name.size) := by
  rw [take_snoc h, nameSz_append]; simp [nameSz]
theorem taskSz_take {l : List Task} {k : Nat} {x : Task} (h : l[k]? = some x) : taskSz (l.take (k + 1)) = taskSz (l.take k) + tsz x := by
  rw [take_snoc h, taskSz_append]; simp [taskSz]
theorem nameSz_le {l : List Decl} (h : ∀ d ∈ l, Str d.name) : nameSz l ≤ l.length * 1048577 := by
  induction l with
  | nil => simp [nameSz]
  | cons x l ih =>
    have h1 := h x (by simp)
    have h2 := ih (fun d hd => h d (by simp [hd]))
    unfold Str at h1
    simp [nameSz]; omega
theorem taskSz_le {l : List Task} (h : ∀ t ∈ l, Str t.channel ∧ Str t.param ∧ sszs t.body ≤ 1000000000) : taskSz l ≤ l.length * 1002097152 := by
  induction l with
  | nil => simp [taskSz]
  | cons x l ih =>
    have h1 := h x (by simp)
    have h2 := ih (fun d hd => h d (by simp [hd]))
    unfold Str at h1
    simp [taskSz, tsz]; omega

theorem ProgAt.tname {N : Nat} {w : World} {v0 v1 v2 v3 v4 v5 : Value} {p : Prog} (h : ProgAt N w v0 v1 v2 v3 v4 v5 p) {k : Nat} {x : Task} (hx : p.tasks[k]? = some x) : x.Wf := by
  obtain ⟨hk, rfl⟩ := List.getElem?_eq_some_iff.1 hx
  obtain ⟨_, _, h2⟩ := h.tasks
  have := (h2 k hk).1
  simpa [List.getD, List.getElem?_eq_getElem hk] using this
theorem mem_idx {α β : Type} {f : Nat → α → β} {l : List α} {y : β} (h : y ∈ l.mapIdx f) : ∃ (k : Nat) (x : α), l[k]? = some x ∧ y = f k x := by
  obtain ⟨k, hk, e⟩ := List.mem_mapIdx.1 h
  exact ⟨k, l[k], List.getElem?_eq_getElem hk, e.symm⟩
theorem ProgAt.names {N : Nat} {w : World} {v0 v1 v2 v3 v4 v5 : Value} {p : Prog} (h : ProgAt N w v0 v1 v2 v3 v4 v5 p) : ∀ d ∈ namesOf p, Str d.name := by
  intro d hd
  simp only [namesOf, List.mem_append] at hd
  rcases hd with ((((hd | hd) | hd) | hd) | hd) | hd <;> obtain ⟨k, x, hx, rfl⟩ := mem_idx hd
  · exact h.cname hx
  · exact h.gname hx
  · exact h.sname (List.mem_append.2 (.inl (List.mem_of_getElem? hx)))
  · exact h.sname (List.mem_append.2 (.inr (List.mem_of_getElem? hx)))
  · exact h.hname hx
  · exact (h.tname hx).1

set_option maxRecDepth 100000 in
set_option maxHeartbeats 4000000 in
theorem Small_any (p : Prog) (v0 v1 v2 v3 v4 v5 : Value) (N : Nat) (w : World) (hp : ProgAt N w v0 v1 v2 v3 v4 v5 p) (hN : N ≤ w.heap.size) (hz : ∀ t ∈ p.tasks, sszs t.body ≤ 1000000000) :
    Calls Tryz.prog 10 #[.agg #[v0, v1, v2, v3, v4, v5]] w fun e w' => e = .returned (.bool (smallB p)) ∧ Below w.heap.size w w' := by
  obtain ⟨o0, q0, rfl, _, _, n0⟩ := SliceAt.slice hp.consts
  obtain ⟨o1, q1, rfl, _, _, n1⟩ := SliceAt.slice hp.globals
  obtain ⟨o2, q2, rfl, _, _, n2⟩ := SliceAt.slice hp.sensors
  obtain ⟨o3, q3, rfl, _, _, n3⟩ := SliceAt.slice hp.outputs
  obtain ⟨o4, q4, rfl, _, _, n4⟩ := SliceAt.slice hp.channels
  obtain ⟨o5, q5, rfl, _, _, n5⟩ := hp.tasks.slice
  have hnl : (namesOf p).length ≤ 7000000 := by unfold namesOf; simp; omega
  have hns := hp.names
  have hts : ∀ t ∈ p.tasks, Str t.channel ∧ Str t.param ∧ sszs t.body ≤ 1000000000 := fun t ht => by
    obtain ⟨k, hk, rfl⟩ := List.getElem_of_mem ht
    have := hp.tname (List.getElem?_eq_getElem hk)
    exact ⟨this.2.2.2.1, this.2.2.2.2.1, hz _ ht⟩
  have hns2 := nameSz_le hns
  have hts2 := taskSz_le hts
  have HTS := Lib.hid hts
  have HNS := Lib.hid hns
  clear hz hns hts
  go_enter Tryz.func10, Tryz.ntmps10
  go_upto_region 1 with fail
  have hBW := (Below.refl w.heap.size w).alloc (Nat.le_refl _) (.cells #[.slice o0 p.consts.length q0, .slice o1 p.globals.length q1, .slice o2 p.sensors.length q2, .slice o3 p.outputs.length q3, .slice o4 p.channels.length q4, .slice o5 p.tasks.length q5] 28)
  have d5 : (w.alloc (.cells #[.slice o0 p.consts.length q0, .slice o1 p.globals.length q1, .slice o2 p.sensors.length q2, .slice o3 p.outputs.length q3, .slice o4 p.channels.length q4, .slice o5 p.tasks.length q5] 28)).cell? ⟨w.heap.size, 5, none⟩ = some (.slice o5 p.tasks.length q5) := cell_first rfl
  have d0 : (w.alloc (.cells #[.slice o0 p.consts.length q0, .slice o1 p.globals.length q1, .slice o2 p.sensors.length q2, .slice o3 p.outputs.length q3, .slice o4 p.channels.length q4, .slice o5 p.tasks.length q5] 28)).cell? ⟨w.heap.size, 0, none⟩ = some (.slice o0 p.consts.length q0) := cell_first rfl
  have d1 : (w.alloc (.cells #[.slice o0 p.consts.length q0, .slice o1 p.globals.length q1, .slice o2 p.sensors.length q2, .slice o3 p.outputs.length q3, .slice o4 p.channels.length q4, .slice o5 p.tasks.length q5] 28)).cell? ⟨w.heap.size, 1, none⟩ = some (.slice o1 p.globals.length q1) := cell_first rfl
  have d2 : (w.alloc (.cells #[.slice o0 p.consts.length q0, .slice o1 p.globals.length q1, .slice o2 p.sensors.length q2, .slice o3 p.outputs.length q3, .slice o4 p.channels.length q4, .slice o5 p.tasks.length q5] 28)).cell? ⟨w.heap.size, 2, none⟩ = some (.slice o2 p.sensors.length q2) := cell_first rfl
  have d3 : (w.alloc (.cells #[.slice o0 p.consts.length q0, .slice o1 p.globals.length q1, .slice o2 p.sensors.length q2, .slice o3 p.outputs.length q3, .slice o4 p.channels.length q4, .slice o5 p.tasks.length q5] 28)).cell? ⟨w.heap.size, 3, none⟩ = some (.slice o3 p.outputs.length q3) := cell_first rfl
  have d4 : (w.alloc (.cells #[.slice o0 p.consts.length q0, .slice o1 p.globals.length q1, .slice o2 p.sensors.length q2, .slice o3 p.outputs.length q3, .slice o4 p.channels.length q4, .slice o5 p.tasks.length q5] 28)).cell? ⟨w.heap.size, 4, none⟩ = some (.slice o4 p.channels.length q4) := cell_first rfl
  generalize w.alloc (.cells #[.slice o0 p.consts.length q0, .slice o1 p.globals.length q1, .slice o2 p.sensors.length q2, .slice o3 p.outputs.length q3, .slice o4 p.channels.length q4, .slice o5 p.tasks.length q5] 28) = W at hBW d0 d1 d2 d3 d4 d5 ⊢
  have hp' := hp.lift (hBW.mono hN)
  have hNW : N ≤ W.heap.size := Nat.le_trans hN hBW.size
  clear hp
  go_wp2_with (go_at_call 30; refine (Names_any p _ _ _ _ _ _ N _ hp' hNW).mono ?_; rintro e w1 ⟨v, rfl, hO, hB⟩; obtain ⟨oa, cap, rfl, _, _⟩ := hO.slice)
  have hBs := hB.size
  have g5 := cell_later d5 hB
  clear d0 d1 d2 d3 d4 d5
  have HSM := Lib.hid (show smallB p = decide (nameSz (namesOf p) + taskSz p.tasks ≤ 1500) from rfl)
  generalize hL : namesOf p = L at *
  clear hL
  go_loopw [3, 11] (fun v i wr => ∃ k : Nat, k ≤ L.length ∧ i = .int .i64 k ∧ v = .int .i64 ((nameSz (L.take k) : Nat) : Int) ∧ Below w1.heap.size w1 wr) (fun _ i _ => L.length - (intOf i).toNat)
  case atStart => exact ⟨0, Nat.zero_le _, rfl, by simp [nameSz], Below.refl _ _⟩
  case round =>
    obtain ⟨k, hk, rfl, rfl, hB2⟩ := hrel
    rename World => wr
    have hB2s := hB2.size
    by_cases hlt : k < L.length
    · obtain ⟨x, b, hx, rfl, hb, c0, c1, c2, c3⟩ := OwnAt.declAt (hO.later hB2) hlt
      have HX := Lib.hid (nameSz_take hx)
      have hle : nameSz (L.take k) ≤ k * 1048577 := by
        have := nameSz_le (l := L.take k) (fun d hd => HNS.out d (List.mem_of_mem_take hd))
        rw [List.length_take, Nat.min_eq_left hk] at this; exact this
      have hxs := HNS.out x (List.mem_of_getElem? hx)
      unfold Str at hxs
      clear hx
      go_wp2_with fail
      go_roundw
      case rel => first | exact ⟨k + 1, by omega, by go_num, by rw [HX.out]; go_num, hB2.alloc hB2s _⟩ | ((repeat apply Exists.intro); exact ⟨⟨k + 1, by omega, by go_num, by rw [HX.out]; go_num, hB2.alloc hB2s _⟩, rfl⟩)
      case measure => simp [intOf]; omega
    · have hk2 : k = L.length := by omega
      subst hk2
      rw [List.take_length]
      have h5 := cell_later g5 hB2
      have hBW5 : Below W.heap.size W wr := hB.trans (hB2.mono hBs)
      go_wp2_with fail
      have hNr : N ≤ wr.heap.size := Nat.le_trans hNW hBW5.size
      go_loopw [3, 25] (fun v i w2 => ∃ j : Nat, j ≤ p.tasks.length ∧ i = .int .i64 j ∧ v = .int .i64 ((nameSz L + taskSz (p.tasks.take j) : Nat) : Int) ∧ Below wr.heap.size wr w2) (fun _ i _ => p.tasks.length - (intOf i).toNat)
      case atStart => exact ⟨0, Nat.zero_le _, rfl, by simp [taskSz], Below.refl _ _⟩
      case round =>
        obtain ⟨j, hj, rfl, rfl, hB3⟩ := hrel
        rename World => w2
        have hB3s := hB3.size
        by_cases hlt2 : j < p.tasks.length
        · obtain ⟨t, b, off, vb, hx, rfl, hb, hxw, hbo, c0, c1, c2, c3, c4, c5, c6, c7⟩ := TasksAt.at (hp'.tasks.lift ((hBW5.trans (hB3.mono hBW5.size)).mono hNW)) hlt2
          obtain ⟨ob, cb, rfl, _, _, _⟩ := hbo.slice
          have HX := Lib.hid (taskSz_take hx)
          have hle : taskSz (p.tasks.take j) ≤ j * 1002097152 := by
            have := taskSz_le (l := p.tasks.take j) (fun d hd => HTS.out d (List.mem_of_mem_take hd))
            rw [List.length_take, Nat.min_eq_left hj] at this; exact this
          obtain ⟨hs1, hs2, hs3⟩ := HTS.out t (List.mem_of_getElem? hx)
          unfold Str at hs1 hs2
          clear hx
          go_upto_region 10 with fail
          have hZ := (Below.refl w2.heap.size w2).alloc (Nat.le_refl _) (.cells #[.string t.name, .int .i64 t.period, .int .i64 t.deadline, .string t.channel, .string t.param, .int .i64 t.within, .slice ob t.body.length cb, .int .i64 t.pos] 53)
          have z3 : (w2.alloc (.cells #[.string t.name, .int .i64 t.period, .int .i64 t.deadline, .string t.channel, .string t.param, .int .i64 t.within, .slice ob t.body.length cb, .int .i64 t.pos] 53)).cell? ⟨w2.heap.size, 3, none⟩ = some (.string t.channel) := cell_first rfl
          have z4 : (w2.alloc (.cells #[.string t.name, .int .i64 t.period, .int .i64 t.deadline, .string t.channel, .string t.param, .int .i64 t.within, .slice ob t.body.length cb, .int .i64 t.pos] 53)).cell? ⟨w2.heap.size, 4, none⟩ = some (.string t.param) := cell_first rfl
          have z6 : (w2.alloc (.cells #[.string t.name, .int .i64 t.period, .int .i64 t.deadline, .string t.channel, .string t.param, .int .i64 t.within, .slice ob t.body.length cb, .int .i64 t.pos] 53)).cell? ⟨w2.heap.size, 6, none⟩ = some (.slice ob t.body.length cb) := cell_first rfl
          generalize w2.alloc (.cells #[.string t.name, .int .i64 t.period, .int .i64 t.deadline, .string t.channel, .string t.param, .int .i64 t.within, .slice ob t.body.length cb, .int .i64 t.pos] 53) = Z at hZ z3 z4 z6 ⊢
          have hZs := hZ.size
          have e3 := fun p : Later Z => Later.cell z3 p
          have e4 := fun p : Later Z => Later.cell z4 p
          have e6 := fun p : Later Z => Later.cell z6 p
          have hbo' := fun p : Later Z => ((hbo.lift (hZ.mono (by omega))).lift (p.h.mono (by omega)))
          have hTI := Lib.hid (show tsz t = t.channel.size + t.param.size + sszs t.body from rfl)
          clear c0 c1 c2 c3 c4 c5 c6 c7
          refine wp_region_later mixed (by kernel_rfl) ?_
          repeat (go_big_quiet_step (exact Calls.later (Size_any _ _ _ N _ (Nat.lt_succ_self _) (hbo' _) (by have := (‹Later Z›).h.size; omega) (by omega))))
          refine wpQuiet_nil ?_
          rintro W' ⟨p', hp2⟩
          have hB' : Below Z.heap.size Z W' := hp2 ▸ p'.h
          clear hp2 p'
          have hB's := hB'.size
          go_wp2_with fail
          go_roundw
          case rel => first | exact ⟨j + 1, by omega, by go_num, by rw [HX.out, hTI.out]; go_num, hB3.trans ((hZ.trans (hB'.mono hZs)).mono hB3s)⟩ | ((repeat apply Exists.intro); exact ⟨⟨j + 1, by omega, by go_num, by rw [HX.out, hTI.out]; go_num, hB3.trans ((hZ.trans (hB'.mono hZs)).mono hB3s)⟩, rfl⟩)
          case measure => simp [intOf]; omega
        · have hk2 : j = p.tasks.length := by omega
          subst hk2
          rw [List.take_length]
          have hfin : Below w.heap.size w w2 := hBW.trans ((hBW5.trans (hB3.mono hBW5.size)).mono hBW.size)
          go_wp2_with fail
          go_ret
          exact ⟨ret_bool (by rw [HSM.out, decide_eq_decide]; omega), hfin⟩
end Go.Proofs.YtkfdnlfkomhmfaaGreatDoor
