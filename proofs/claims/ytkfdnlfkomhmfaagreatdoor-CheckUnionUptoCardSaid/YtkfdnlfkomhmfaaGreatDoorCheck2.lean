/- check.Check, where the tasks are plain. -/
import Derived.Test.YtkfdnlfkomhmfaaGreatDoorAll
import Derived.Test.YtkfdnlfkomhmfaaGreatDoorWellP
namespace Go.Proofs.YtkfdnlfkomhmfaaGreatDoor
open Go.RowKit
set_option linter.unusedVariables false
set_option linter.unusedSimpArgs false

def tasksG (p : Prog) : Nat → List Task → List Diag
  | _, [] => []
  | i, t :: l => (taskR p i t ++ block2R p [] t.body) ++ tasksG p (i + 1) l
theorem tasksG_snoc (p : Prog) (l : List Task) (t : Task) : ∀ i, tasksG p i (l ++ [t]) = tasksG p i l ++ (taskR p (i + l.length) t ++ block2R p [] t.body) := by
  induction l with
  | nil => intro i; simp [tasksG]
  | cons x l ih => intro i; simp [tasksG, ih, Nat.add_assoc, Nat.add_comm 1]
theorem tasksG_take {p : Prog} {k : Nat} {t : Task} (h : p.tasks[k]? = some t) : tasksG p 0 (p.tasks.take (k + 1)) = tasksG p 0 (p.tasks.take k) ++ (taskR p k t ++ block2R p [] t.body) := by
  have hk : k < p.tasks.length := (List.getElem?_eq_some_iff.1 h).1
  rw [take_snoc h, tasksG_snoc, Nat.zero_add, List.length_take, Nat.min_eq_left (by omega)]
def headR (p : Prog) : List Diag := dataG 0 p.globals ++ chanR p.channels ++ dupG [] (namesOf p)
def checkR (p : Prog) : List Diag := headR p ++ tasksG p 0 p.tasks
structure Plain (p : Prog) : Prop where
  g : p.globals.length ≤ 32
  s : p.sensors.length ≤ 8
  o : p.outputs.length ≤ 8
  h : p.channels.length ≤ 8
  t : p.tasks.length ≤ 8
  task : ∀ t ∈ p.tasks, t.channel = emp ∧ t.param = emp ∧ ∀ x ∈ t.body, x.kind = 2

set_option maxRecDepth 100000 in
set_option maxHeartbeats 8000000 in
theorem Check_in (p : Prog) (v0 v1 v2 v3 v4 v5 : Value) (N : Nat) (w : World) (hp : ProgAt N w v0 v1 v2 v3 v4 v5 p) (hN : N ≤ w.heap.size) (hT : Tabs w) (hok : progOk p = true) (hpl : Plain p) (hlen : (checkR p).length ≤ 100000) (hnm : (namesOf p).length ≤ 100000) :
    Calls Tryz.prog 13 #[.agg #[v0, v1, v2, v3, v4, v5]] w fun e w' => ∃ v l, e = .returned v ∧ l.Perm (addAll [] (checkR p)) ∧ Sorted l ∧ DiagsAt w'.heap.size w' v l ∧ Below w.heap.size w w' := by
  obtain ⟨o0, q0, rfl, _, _, n0⟩ := SliceAt.slice hp.consts
  obtain ⟨o1, q1, rfl, _, _, n1⟩ := SliceAt.slice hp.globals
  obtain ⟨o2, q2, rfl, _, _, n2⟩ := SliceAt.slice hp.sensors
  obtain ⟨o3, q3, rfl, _, _, n3⟩ := SliceAt.slice hp.outputs
  obtain ⟨o4, q4, rfl, _, _, n4⟩ := SliceAt.slice hp.channels
  obtain ⟨o5, q5, rfl, _, _, n5⟩ := hp.tasks.slice
  have hpg := Lib.hid hpl
  have HLEN := Lib.hid hlen
  clear hpl hlen
  go_enter Tryz.func13, Tryz.ntmps13
  go_upto_region 1 with fail
  have hWB := (Below.refl w.heap.size w).alloc (Nat.le_refl _) (.cells #[.slice o0 p.consts.length q0, .slice o1 p.globals.length q1, .slice o2 p.sensors.length q2, .slice o3 p.outputs.length q3, .slice o4 p.channels.length q4, .slice o5 p.tasks.length q5] 28)
  have hA := Blk.new w #[.slice o0 p.consts.length q0, .slice o1 p.globals.length q1, .slice o2 p.sensors.length q2, .slice o3 p.outputs.length q3, .slice o4 p.channels.length q4, .slice o5 p.tasks.length q5] 28
  generalize w.alloc (.cells #[.slice o0 p.consts.length q0, .slice o1 p.globals.length q1, .slice o2 p.sensors.length q2, .slice o3 p.outputs.length q3, .slice o4 p.channels.length q4, .slice o5 p.tasks.length q5] 28) = W at hA hWB ⊢
  obtain ⟨a0, a1, a2, a3, a4, a5⟩ := hA.six
  have hp' := hp.lift (hWB.mono hN)
  have hNW := Nat.le_trans hN hWB.size
  have hTW := Lib.hid (hT.later hWB)
  clear hT hp
  go_upto_region 3 with (go_at_call 32; refine (WellFormed_any p _ _ _ _ _ _ N _ hp' hNW hTW.out).mono ?_; rintro e w1 ⟨rfl, hB1⟩; rw [hok]; have hA1 := hA.later hB1; obtain ⟨a0, a1, a2, a3, a4, a5⟩ := hA1.six)
  have hp1 := hp'.lift (hB1.mono hNW)
  have hN1 := Nat.le_trans hNW hB1.size
  have hpD := fun (W' : World) (h : Below w1.heap.size w1 W') => hp1.lift (h.mono hN1)
  clear hA
  go_region_with (go_at_call 33; refine (table_any p _ _ _ _ _ _ N _ (hp1.lift ((Below.refl w1.heap.size w1).drew.mono hN1)) hN1).mono ?_; rintro e w2 ⟨m, rfl, hm, hM, hB2⟩; rw [fill_table] at hM; replace hB2 := ((Below.refl w1.heap.size w1).drew).trans hB2; obtain ⟨a0, a1, a2, a3, a4, a5⟩ := (hA1.later hB2).six)
  all_goals
    go_upto_region 4 with fail
    have hB2s := hB2.size
    have hB1s := hB1.size
    have hZ := (Below.refl w2.heap.size w2).alloc (Nat.le_refl _) (.cells #[.slice o0 p.consts.length q0, .slice o1 p.globals.length q1, .slice o2 p.sensors.length q2, .slice o3 p.outputs.length q3, .slice o4 p.channels.length q4, .slice o5 p.tasks.length q5, .map (some m), .slice none 0 0, .slice none 0 0, .bool false, .bool false, .int .i64 0] 77)
    have hCk : Chk ⟨.slice o0 p.consts.length q0, .slice o1 p.globals.length q1, .slice o2 p.sensors.length q2, .slice o3 p.outputs.length q3, .slice o4 p.channels.length q4, .slice o5 p.tasks.length q5, m, N, w2.heap.size, p⟩ (w2.alloc (.cells #[.slice o0 p.consts.length q0, .slice o1 p.globals.length q1, .slice o2 p.sensors.length q2, .slice o3 p.outputs.length q3, .slice o4 p.channels.length q4, .slice o5 p.tasks.length q5, .map (some m), .slice none 0 0, .slice none 0 0, .bool false, .bool false, .int .i64 0] 77)) w2.heap.size ⟨[], [], false, false, 0⟩ := by
      have hbx := Blk.new w2 #[.slice o0 p.consts.length q0, .slice o1 p.globals.length q1, .slice o2 p.sensors.length q2, .slice o3 p.outputs.length q3, .slice o4 p.channels.length q4, .slice o5 p.tasks.length q5, .map (some m), .slice none 0 0, .slice none 0 0, .bool false, .bool false, .int .i64 0] 77
      have hl2 := hB2.trans (hZ.mono hB2s)
      refine ⟨hp1.lift (hl2.mono hN1), Nat.le_trans hN1 hB2s, hM.later hZ, hM.lt, _, _, hbx, Nat.le_refl _, _, _, rfl, rfl, OwnAt.nil _ _ _ _ _, OwnAt.nil _ _ _ _ _, by simp [Value.ownBlock], by simp [Value.ownBlock], by simp [Value.ownBlock]⟩
    have hA3 := ((hA1.later hB2).later hZ)
    have hL3 : Lcl 7 8 w2.heap.size (w2.alloc (.cells #[.slice o0 p.consts.length q0, .slice o1 p.globals.length q1, .slice o2 p.sensors.length q2, .slice o3 p.outputs.length q3, .slice o4 p.channels.length q4, .slice o5 p.tasks.length q5, .map (some m), .slice none 0 0, .slice none 0 0, .bool false, .bool false, .int .i64 0] 77)) w.heap.size #[.slice o0 p.consts.length q0, .slice o1 p.globals.length q1, .slice o2 p.sensors.length q2, .slice o3 p.outputs.length q3, .slice o4 p.channels.length q4, .slice o5 p.tasks.length q5] 28 := ⟨hA3, fun q => by
      obtain ⟨vl, vs, hk⟩ := hCk.ck
      have h1 := (hk.foot q).1
      have h2 := hA1.lt
      simp at h1; omega⟩
    have hBall := hWB.trans ((hB1.trans ((hB2.trans (hZ.mono hB2s)).mono hB1s)).mono hWB.size)
    clear hZ hA3
    generalize (w2.alloc (.cells #[.slice o0 p.consts.length q0, .slice o1 p.globals.length q1, .slice o2 p.sensors.length q2, .slice o3 p.outputs.length q3, .slice o4 p.channels.length q4, .slice o5 p.tasks.length q5, .map (some m), .slice none 0 0, .slice none 0 0, .bool false, .bool false, .int .i64 0] 77)) = Z at hCk hL3 hBall ⊢
    generalize hK : (⟨.slice o0 p.consts.length q0, .slice o1 p.globals.length q1, .slice o2 p.sensors.length q2, .slice o3 p.outputs.length q3, .slice o4 p.channels.length q4, .slice o5 p.tasks.length q5, m, N, w2.heap.size, p⟩ : CkK) = K at hCk
    have hKp : K.p = p := by rw [← hK]
    have hKN : K.N = N := by rw [← hK]
    have hKB : w.heap.size ≤ K.B := by rw [← hK]; show w.heap.size ≤ w2.heap.size; have := hWB.size; omega
    have hK5 : K.v5 = .slice o5 p.tasks.length q5 := by rw [← hK]
    generalize w2.heap.size = b at *
    clear hK
    obtain ⟨l0, l1, l2, l3, l4⟩ : K.p.globals.length ≤ 32 ∧ K.p.sensors.length ≤ 8 ∧ K.p.outputs.length ≤ 8 ∧ K.p.channels.length ≤ 8 ∧ K.p.tasks.length ≤ 8 := by rw [hKp]; exact ⟨hpg.out.g, hpg.out.s, hpg.out.o, hpg.out.h, hpg.out.t⟩
    have hnm' : (namesOf K.p).length ≤ 100000 := by rw [hKp]; exact hnm
    go_wp2_with (first
      | (go_at_call 34; refine (limits_in hCk l0 l1 l2 l3 l4).mono ?_; rintro e w3 ⟨rfl, hC1, hM1⟩)
      | (go_at_call 35; refine (data_any hC1 (by show 0 + _ + _ ≤ _; omega)).mono ?_; rintro e w4 ⟨rfl, hC2, hM2⟩; have hl2 := CkS.add_len ⟨[], [], false, false, 0⟩ (dataG 0 K.p.globals ++ chanR K.p.channels); rw [List.length_append] at hl2; have hd1 := dataG_len K.p.globals 0; have hd2 := chanR_len K.p.channels; simp only [List.length_nil] at hl2)
      | (go_at_call 36; refine (names_any hC2 (by omega)).mono ?_; rintro e w5 ⟨rfl, hC3, hM3⟩; have hL5 := ((hL3.mut hM1).mut hM2).mut hM3; obtain ⟨a0, a1, a2, a3, a4, a5⟩ := Blk.six hL5.heap))
    have hB35 := hCk.below ((hM1.trans hM2).trans hM3)
    have hC4 : Chk K w5 b ⟨addAll [] (headR p ++ tasksG p 0 (p.tasks.take 0)), [], false, false, 0⟩ := hC3.mk2 (by rw [hKp]; simp [CkS.add, headR, addAll_app, tasksG])
    clear hC1 hC2 hC3 hl2 hd1 hd2
    go_loopw [25] (fun i wr => ∃ (k : Nat) (sg : Bool) (tm : Int), k ≤ p.tasks.length ∧ i = .int .i64 k ∧ Chk K wr b ⟨addAll [] (headR p ++ tasksG p 0 (p.tasks.take k)), [], false, sg, tm⟩ ∧ Below K.B Z wr) (fun i _ => p.tasks.length - (intOf i).toNat)
    case atStart => exact ⟨0, false, 0, Nat.zero_le _, rfl, hC4, hB35⟩
    case round =>
      obtain ⟨k, sg, tm, hk, rfl, hC, hBr⟩ := hrel
      rename World => wr
      clear a0 a1 a2 a3 a4 a5 hL5
      by_cases hlt : k < p.tasks.length
      · have htk := hC.prog.tasks
        rw [hK5, hKp] at htk
        obtain ⟨t, bt, off, vb, ht, rfl, hbt, hwf, hbo, z0, z1, z2, z3, z4, z5, z6, z7⟩ := TasksAt.at htk hlt
        obtain ⟨hch, hpa, hk2⟩ := hpg.out.task t (List.mem_of_getElem? ht)
        obtain ⟨ob, cb, rfl, _, _, _⟩ := hbo.slice
        have em2 : t.param.toList.isEmpty = true := by rw [isEmp, hpa]; rfl
        have HT := Lib.hid (tasksG_take ht)
        have hlt2 : (headR p ++ tasksG p 0 (p.tasks.take k)).length + ((taskR p k t).length + (block2R p [] t.body).length) ≤ 100000 := by
          have h1 := HLEN.out
          have h2 : tasksG p 0 p.tasks = tasksG p 0 (p.tasks.take (k + 1) ++ p.tasks.drop (k + 1)) := by rw [List.take_append_drop]
          have h3 : ∀ (l m : List Task) (i : Nat), (tasksG p i l).length ≤ (tasksG p i (l ++ m)).length := by
            intro l m
            induction l with
            | nil => intro i; simp [tasksG]
            | cons x l ih => intro i; have := ih (i + 1); simp only [tasksG, List.cons_append, List.length_append]; omega
          have h4 := h3 (p.tasks.take (k + 1)) (p.tasks.drop (k + 1)) 0
          rw [← h2, tasksG_take ht] at h4
          unfold checkR at h1
          simp only [List.length_append] at *
          omega
        have hla := addAll_len [] (headR p ++ tasksG p 0 (p.tasks.take k))
        rw [List.length_nil, Nat.zero_add] at hla
        have hti : K.p.tasks[k]? = some t := by rw [hKp]; exact ht
        have HTI := Lib.hid hti
        have HK2 := Lib.hid hk2
        have HCH := Lib.hid hch
        have HPA := Lib.hid hpa
        clear hti hk2 hch hpa ht
        generalize hR0 : headR p ++ tasksG p 0 (p.tasks.take k) = R0 at hC hla hlt2
        have HR0 := Lib.hid hR0
        clear hR0
        go_upto_region 10 with fail
        have hZ := (Below.refl wr.heap.size wr).alloc (Nat.le_refl _) (.cells #[.string t.name, .int .i64 t.period, .int .i64 t.deadline, .string t.channel, .string t.param, .int .i64 t.within, .slice ob t.body.length cb, .int .i64 t.pos] 53)
        have hY := hC.loc #[.string t.name, .int .i64 t.period, .int .i64 t.deadline, .string t.channel, .string t.param, .int .i64 t.within, .slice ob t.body.length cb, .int .i64 t.pos] 53
        generalize wr.alloc (.cells #[.string t.name, .int .i64 t.period, .int .i64 t.deadline, .string t.channel, .string t.param, .int .i64 t.within, .slice ob t.body.length cb, .int .i64 t.pos] 53) = Zt at hY hZ ⊢
        have hCZ := hC.later hZ
        have hMZ := hC.mutOf hZ
        clear z0 z1 z2 z3 z4 z5 z6 z7
        have HTC := Lib.hid (task_in hCZ k t HTI.out HCH.out HPA.out (by show (addAll [] R0).length + 6 ≤ _; omega))
        go_upto_region 11 with (go_at_call 37; refine HTC.out.mono ?_; rintro e w6 ⟨rfl, hC6, hM6⟩)
        have hY6 := hY.mut hM6
        obtain ⟨y1, y2, y3, y4, y5, y7⟩ := hY6.eight
        obtain ⟨vl6, vs6, hk6⟩ := hC6.ck
        have c8 : w6.cell? ⟨b, 8, none⟩ = some vs6 := hk6.cell rfl
        have c10 : w6.cell? ⟨b, 10, none⟩ = some (.bool sg) := hk6.cell rfl
        have c11 : w6.cell? ⟨b, 11, none⟩ = some (.int .i64 tm) := hk6.cell rfl
        have f8 := hk6.froz 8
        have f10 := hk6.froz 10
        have f11 := hk6.froz 11
        go_region
        have hgr : w6.grownBy w6 vs6.ownBlock := ⟨rfl, rfl, rfl, Nat.le_refl _, fun _ _ _ => rfl⟩
        obtain ⟨r1, s1⟩ := hk6.setJ (by decide) (show _ = some vs6 from rfl) hgr (OwnAt.nil strCells 1 9 K.B w6) (by simp [Value.ownBlock])
        obtain ⟨r2, s2⟩ := r1.set (o := 11) (by decide) (by decide) (.int .i64 1)
        obtain ⟨r3, s3⟩ := r2.set (o := 10) (by decide) (by decide) (.bool (t.within != 0))
        have hdr := (Below.refl (((w6.setCell ⟨b, 8, none⟩ (.slice none 0 0)).setCell ⟨b, 11, none⟩ (.int .i64 1)).setCell ⟨b, 10, none⟩ (.bool (t.within != 0))).heap.size (((w6.setCell ⟨b, 8, none⟩ (.slice none 0 0)).setCell ⟨b, 11, none⟩ (.int .i64 1)).setCell ⟨b, 10, none⟩ (.bool (t.within != 0)))).drew
        have r4 := r3.later hdr
        have s4 : CMut b w6 ((((w6.setCell ⟨b, 8, none⟩ (.slice none 0 0)).setCell ⟨b, 11, none⟩ (.int .i64 1)).setCell ⟨b, 10, none⟩ (.bool (t.within != 0))).drew) := ((s1.trans s2).trans s3).trans (Mut.of_below hdr r3.lt)
        have hC7 : Chk K _ b ⟨addAll [] (R0 ++ taskR K.p k t), [], false, t.within != 0, 1⟩ := hC6.turn s4 ⟨_, _, by rw [addAll_app]; exact r4⟩
        clear r1 r2 r3 r4 s1 s2 s3 hdr c8 c10 c11 f8 f10 f11 hk6 hgr y1 y2 y3 y4 y5 y7
        generalize ((((w6.setCell ⟨b, 8, none⟩ (.slice none 0 0)).setCell ⟨b, 11, none⟩ (.int .i64 1)).setCell ⟨b, 10, none⟩ (.bool (t.within != 0))).drew) = W7 at s4 hC7 ⊢
        have hY7 := hY6.mut s4
        have y4 : W7.cell? ⟨wr.heap.size, 4, none⟩ = some (.string t.param) := hY7.cell rfl
        have y6 : W7.cell? ⟨wr.heap.size, 6, none⟩ = some (.slice ob t.body.length cb) := hY7.cell rfl
        have hM7 := (hMZ.trans hM6).trans s4
        have hla2 := addAll_len [] (R0 ++ taskR K.p k t)
        rw [List.length_nil, Nat.zero_add, List.length_append] at hla2
        have hlt3 : (addAll [] (R0 ++ taskR K.p k t)).length + (block2R K.p [] t.body).length ≤ 1000000 := by rw [hKp] at hla2 ⊢; omega
        have HBC := Lib.hid (block2_any t.body hC7 _ HK2.out (hbo.lift (hC.keep hM7)) hlt3 (by simp))
        clear hla hla2 hlt2 hlt3
        go_wp2_with (go_at_call 38; refine HBC.out.mono ?_; rintro e w8 ⟨rfl, hC8, hM8⟩)
        have hC9 : Chk K w8 b ⟨addAll [] (headR p ++ tasksG p 0 (p.tasks.take (k + 1))), [], false, t.within != 0, 1⟩ := hC8.mk2 (by rw [HT.out, ← List.append_assoc, HR0.out, ← List.append_assoc, addAll_app [] (R0 ++ taskR p k t), ← hKp]; rfl)
        have hB9 := hBr.trans (hC.below (hM7.trans hM8))
        go_roundw
        case rel => first | exact ⟨k + 1, _, _, by omega, by go_num, hC9, hB9⟩ | ((repeat apply Exists.intro); exact ⟨⟨k + 1, _, _, by omega, by go_num, hC9, hB9⟩, rfl⟩)
        case measure => simp [intOf]; omega
      · have hk2 : k = p.tasks.length := by omega
        subst hk2
        rw [List.take_length] at hC
        have hla := addAll_len [] (headR p ++ tasksG p 0 p.tasks)
        have hlen2 : (headR p ++ tasksG p 0 p.tasks).length ≤ 100000 := HLEN.out
        rw [List.length_nil, Nat.zero_add] at hla
        go_wp2_with (go_at_call 39; refine (All_any hC (by show (addAll [] _).length ≤ _; omega)).mono ?_; rintro e w9 ⟨v, l, rfl, hpm, hso, hdi, hB10⟩)
        go_ret
        exact ⟨_, l, rfl, hpm, hso, hdi, hBall.trans ((hBr.mono hKB).trans (hB10.mono (Nat.le_trans hKB hC.hB)))⟩
end Go.Proofs.YtkfdnlfkomhmfaaGreatDoor
