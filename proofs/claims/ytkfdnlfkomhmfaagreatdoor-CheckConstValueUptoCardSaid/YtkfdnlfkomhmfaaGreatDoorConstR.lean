/- The reference's ConstValue. -/
import Derived.Test.YtkfdnlfkomhmfaaGreatDoorConstV
import Derived.Test.YtkfdnlfkomhmfaaGreatDoorLater
namespace Go.Proofs.YtkfdnlfkomhmfaaGreatDoor
open Go.RowKit
set_option linter.unusedVariables false
set_option linter.unusedSimpArgs false

theorem wun_err {op a : Int} (h : ((wun op a).2 == 0) = false) : cun op a = (0, false) := by
  unfold cun
  rw [h]
  have : (wun op a).1 = 0 := by
    revert h; unfold wun; split
    · simp
    · split
      · simp
      · simp
  rw [this]
theorem wbin_err {op a b : Int} (h : ((wbin op a b).2 == 0) = false) : wbin op a b = (0, (wbin op a b).2) := by
  have : (wbin op a b).1 = 0 := by
    revert h; unfold wbin
    repeat' split
    all_goals simp
  exact Prod.ext this rfl
theorem constVs_get {p : Prog} {l : List Expr} {us : List Int} (h : constVs p l = some us) (k : Nat) (hk : k < l.length) : us[k]? = some (constV p (l.getD k default)).1 := by
  induction l generalizing us k with
  | nil => simp at hk
  | cons y l ih =>
    simp only [constVs] at h
    rcases hv : constV p y with ⟨v, _ | _⟩
    · rw [hv] at h; simp at h
    · rw [hv] at h
      cases hl : constVs p l with
      | none => rw [hl] at h; simp at h
      | some vs =>
        rw [hl] at h
        simp at h
        subst h
        cases k with
        | zero => simp [hv]
        | succ k => have := ih hl k (by simpa using hk); simpa using this
theorem constV_i16 {p : Prog} (hc : ∀ i, i < p.consts.length → (p.consts.getD i default).Wf) : ∀ (m : Nat) (x : Expr) (va : Value) (N : Nat) (w : World), esz x < m → x.Wf → ExprsAt N w va x.args → I16 (constV p x).1 := by
  intro m
  induction m with
  | zero => intro x va N w h; omega
  | succ m ih =>
  intro x va N w hm hwf ha
  by_cases h1 : x.kind = 1
  · rw [constV_1 h1]; exact hwf.2.2.1
  · by_cases h2 : x.kind = 2
    · rw [constV_2 h1 h2]
      split
      · next hk =>
        obtain ⟨k, c, hc', hi⟩ := look_const hk
        rw [hi]
        exact (hc k (List.getElem?_eq_some_iff.1 hc').1).2.1
      · exact i16_0
    · rw [constV_n h1 h2]
      cases hcv : constVs p x.args with
      | none => exact i16_0
      | some us =>
        simp only
        split
        · exact cun_i16 _ _
        · split
          · next h6 =>
            have hl := constVs_len hcv
            have hlt : 0 < x.args.length := by omega
            have hg := constVs_get hcv 0 hlt
            obtain ⟨oa, ca, rfl, _⟩ := ha.slice
            obtain ⟨y, b, off, vy, hy, _, _, hyw, hya, _⟩ := ExprsAt.at ha hlt
            have hyd : x.args.getD 0 default = y := by simp [List.getD, hy]
            rw [hyd] at hg
            have := ih y vy N w (by have := esz_mem (List.mem_of_getElem? hy); omega) hyw hya
            refine cbin_i16 ?_
            rw [List.getD_eq_getElem?_getD, hg]; exact this
          · exact i16_0
theorem constV_u {p : Prog} {x y : Expr} (h : x.kind = 5) (hl : x.args.length = 1) (hy : x.args[0]? = some y) : constV p x = if (constV p y).2 then cun x.op (constV p y).1 else (0, false) := by
  rw [constV_n (by omega) (by omega)]
  cases ho : (constV p y).2
  · rw [constVs_bad hy ho]; rfl
  · obtain ⟨z, hz⟩ := List.length_eq_one_iff.1 hl
    rw [hz] at hy ⊢
    cases hy
    simp only [constVs]
    rcases hv : constV p y with ⟨v, _ | _⟩
    · rw [hv] at ho; simp at ho
    · simp [h]
theorem constV_ul {p : Prog} {x : Expr} (h : x.kind = 5) (hl : ¬ x.args.length = 1) : constV p x = (0, false) := by
  rw [constV_n (by omega) (by omega)]
  cases hcv : constVs p x.args with
  | none => rfl
  | some us => have := constVs_len hcv; simp only; rw [if_neg (by omega), if_neg (by omega)]
theorem constV_b {p : Prog} {x y z : Expr} (h : x.kind = 6) (hl : x.args.length = 2) (hy : x.args[0]? = some y) (hz : x.args[1]? = some z) : constV p x = if (constV p y).2 && (constV p z).2 then cbin x.op (constV p y).1 (constV p z).1 else (0, false) := by
  rw [constV_n (by omega) (by omega)]
  cases ho : (constV p y).2
  · rw [constVs_bad hy ho]; rfl
  · cases ho2 : (constV p z).2
    · rw [constVs_bad hz ho2]; rfl
    · obtain ⟨y', z', hyz⟩ : ∃ y' z', x.args = [y', z'] := by
        rcases hxa : x.args with _ | ⟨y', _ | ⟨z', _ | ⟨u, l⟩⟩⟩
        · rw [hxa] at hl; simp at hl
        · rw [hxa] at hl; simp at hl
        · exact ⟨y', z', rfl⟩
        · rw [hxa] at hl; simp at hl
      rw [hyz] at hy hz ⊢
      cases hy
      cases hz
      simp only [constVs]
      rcases hv : constV p y with ⟨v, _ | _⟩
      · rw [hv] at ho; simp at ho
      · rcases hv2 : constV p z with ⟨v2, _ | _⟩
        · rw [hv2] at ho2; simp at ho2
        · simp [h]
theorem constV_bl {p : Prog} {x : Expr} (h : x.kind = 6) (hl : ¬ x.args.length = 2) : constV p x = (0, false) := by
  rw [constV_n (by omega) (by omega)]
  cases hcv : constVs p x.args with
  | none => rfl
  | some us => have := constVs_len hcv; simp only; rw [if_neg (by omega), if_neg (by omega)]
theorem constV_o {p : Prog} {x : Expr} (h1 : ¬ x.kind = 1) (h2 : ¬ x.kind = 2) (h5 : ¬ x.kind = 5) (h6 : ¬ x.kind = 6) : constV p x = (0, false) := by
  rw [constV_n h1 h2]
  cases hcv : constVs p x.args with
  | none => rfl
  | some us => simp only; rw [if_neg (by omega), if_neg (by omega)]

set_option maxRecDepth 100000 in
set_option maxHeartbeats 8000000 in
theorem rConstValue_any (p : Prog) : ∀ (m : Nat) (x : Expr) (v0 v1 v2 v3 v4 v5 va : Value) (N : Nat) (w : World), esz x < m → ProgAt N w v0 v1 v2 v3 v4 v5 p → x.Wf → ExprsAt N w va x.args → N ≤ w.heap.size →
    Calls Tryz.prog 19 #[.agg #[v0, v1, v2, v3, v4, v5], .agg #[.int .i64 x.kind, .string x.name, .int .i16 x.value, .int .i64 x.op, va, .int .i64 x.pos]] w fun e w' =>
      e = .returned (.tuple #[.int .i16 (constV p x).1, .bool (constV p x).2]) ∧ Below w.heap.size w w' := by
  intro m
  induction m with
  | zero => intro x v0 v1 v2 v3 v4 v5 va N w hm; omega
  | succ m ih =>
  intro x v0 v1 v2 v3 v4 v5 va N w hm hp hwf ha hN
  obtain ⟨o0, q0, rfl, _, _, n0⟩ := SliceAt.slice hp.consts
  obtain ⟨o1, q1, rfl, _, _, n1⟩ := SliceAt.slice hp.globals
  obtain ⟨o2, q2, rfl, _, _, n2⟩ := SliceAt.slice hp.sensors
  obtain ⟨o3, q3, rfl, _, _, n3⟩ := SliceAt.slice hp.outputs
  obtain ⟨o4, q4, rfl, _, _, n4⟩ := SliceAt.slice hp.channels
  obtain ⟨o5, q5, rfl, _, _, n5⟩ := hp.tasks.slice
  obtain ⟨oa, ca, rfl, _, _, na⟩ := ha.slice
  have hval := hwf.2.2.1
  by_cases h1 : x.kind = 1
  · have t1 : (x.kind == 1) = true := beq_iff_eq.2 h1
    have HR := Lib.hid (constV_1 (p := p) h1)
    clear h1
    go_enter Tryz.func19, Tryz.ntmps19
    go_wp2_with fail
    go_ret2
    exact ⟨ret_vb (by rw [HR.out]) (by rw [HR.out]), below_two _ _ _⟩
  have t1 : (x.kind == 1) = false := beq_eq_false_iff_ne.2 h1
  by_cases h2 : x.kind = 2
  · have t2 : (x.kind == 2) = true := beq_iff_eq.2 h2
    have hr := constV_2 (p := p) h1 h2
    clear h1 h2
    by_cases hk : lookK (namesOf p) x.name = 1
    · obtain ⟨k, c, hc, hi⟩ := look_const hk
      rw [if_pos hk, hi] at hr
      have tk : (lookK (namesOf p) x.name != 1) = false := by rw [hk]; rfl
      have hLV : lookV (namesOf p) x.name = .tuple #[.int .i64 (lookK (namesOf p) x.name), .int .i64 (k : Int), .bool (lookB (namesOf p) x.name)] := by rw [lookV, hi]
      have hkl : k < p.consts.length := (List.getElem?_eq_some_iff.1 hc).1
      have hcd : p.consts.getD k default = c := by simp [List.getD, hc]
      simp only [Int.toNat_natCast, hcd] at hr
      have HR := Lib.hid hr
      generalize lookK (namesOf p) x.name = K at tk hLV
      generalize lookB (namesOf p) x.name = Bk at hLV
      have HLV := Lib.hid hLV
      clear hr hk hi hLV hcd
      have HC := Lib.hid hc
      clear hc
      go_enter Tryz.func19, Tryz.ntmps19
      go_upto_region 1 with fail
      obtain ⟨hA, hX⟩ := Blk.two w #[.slice o0 p.consts.length q0, .slice o1 p.globals.length q1, .slice o2 p.sensors.length q2, .slice o3 p.outputs.length q3, .slice o4 p.channels.length q4, .slice o5 p.tasks.length q5] 28 #[.int .i64 x.kind, .string x.name, .int .i16 x.value, .int .i64 x.op, .slice oa x.args.length ca, .int .i64 x.pos] 40
      have hWB := below_two w (.cells #[.slice o0 p.consts.length q0, .slice o1 p.globals.length q1, .slice o2 p.sensors.length q2, .slice o3 p.outputs.length q3, .slice o4 p.channels.length q4, .slice o5 p.tasks.length q5] 28) (.cells #[.int .i64 x.kind, .string x.name, .int .i16 x.value, .int .i64 x.op, .slice oa x.args.length ca, .int .i64 x.pos] 40)
      generalize ((w.alloc (.cells #[.slice o0 p.consts.length q0, .slice o1 p.globals.length q1, .slice o2 p.sensors.length q2, .slice o3 p.outputs.length q3, .slice o4 p.channels.length q4, .slice o5 p.tasks.length q5] 28)).alloc (.cells #[.int .i64 x.kind, .string x.name, .int .i16 x.value, .int .i64 x.op, .slice oa x.args.length ca, .int .i64 x.pos] 40)) = W at hA hX hWB ⊢
      have a0 := hA.cell 0 rfl
      have a1 := hA.cell 1 rfl
      have a2 := hA.cell 2 rfl
      have a3 := hA.cell 3 rfl
      have a4 := hA.cell 4 rfl
      have a5 := hA.cell 5 rfl
      have x0 := hX.cell 0 rfl
      have x1 := hX.cell 1 rfl
      have x3 := hX.cell 3 rfl
      have x4 := hX.cell 4 rfl
      have hp' := hp.lift (hWB.mono hN)
      have hNW := Nat.le_trans hN hWB.size
      go_wp2_with (go_at_call 16; refine (rLookup_any p _ _ _ _ _ _ _ N _ hp' hNW).mono ?_; rintro e w1 ⟨rfl, hB1⟩; rw [HLV.out]; have b0 := (hA.later hB1).cell 0 rfl; obtain ⟨c', b, off, hc', rfl, hb, c0, c1, c2⟩ := ConstsAt.at (SliceAt.lift hp'.consts (hB1.mono hNW)) hkl; obtain rfl : c' = c := (Option.some.inj (hc'.symm.trans HC.out)); clear hc')
      go_ret2
      exact ⟨ret_vb (by rw [HR.out]) (by rw [HR.out]), hWB.trans (hB1.mono hWB.size)⟩
    · rw [if_neg hk] at hr
      have tk : (lookK (namesOf p) x.name != 1) = true := by simpa using hk
      have HR := Lib.hid hr
      have HLV := Lib.hid (show lookV (namesOf p) x.name = .tuple #[.int .i64 (lookK (namesOf p) x.name), .int .i64 (lookI (namesOf p) x.name), .bool (lookB (namesOf p) x.name)] from rfl)
      generalize lookK (namesOf p) x.name = K at tk HLV
      generalize lookI (namesOf p) x.name = I at HLV
      generalize lookB (namesOf p) x.name = Bk at HLV
      clear hr hk
      go_enter Tryz.func19, Tryz.ntmps19
      go_upto_region 1 with fail
      obtain ⟨hA, hX⟩ := Blk.two w #[.slice o0 p.consts.length q0, .slice o1 p.globals.length q1, .slice o2 p.sensors.length q2, .slice o3 p.outputs.length q3, .slice o4 p.channels.length q4, .slice o5 p.tasks.length q5] 28 #[.int .i64 x.kind, .string x.name, .int .i16 x.value, .int .i64 x.op, .slice oa x.args.length ca, .int .i64 x.pos] 40
      have hWB := below_two w (.cells #[.slice o0 p.consts.length q0, .slice o1 p.globals.length q1, .slice o2 p.sensors.length q2, .slice o3 p.outputs.length q3, .slice o4 p.channels.length q4, .slice o5 p.tasks.length q5] 28) (.cells #[.int .i64 x.kind, .string x.name, .int .i16 x.value, .int .i64 x.op, .slice oa x.args.length ca, .int .i64 x.pos] 40)
      generalize ((w.alloc (.cells #[.slice o0 p.consts.length q0, .slice o1 p.globals.length q1, .slice o2 p.sensors.length q2, .slice o3 p.outputs.length q3, .slice o4 p.channels.length q4, .slice o5 p.tasks.length q5] 28)).alloc (.cells #[.int .i64 x.kind, .string x.name, .int .i16 x.value, .int .i64 x.op, .slice oa x.args.length ca, .int .i64 x.pos] 40)) = W at hA hX hWB ⊢
      have a0 := hA.cell 0 rfl
      have a1 := hA.cell 1 rfl
      have a2 := hA.cell 2 rfl
      have a3 := hA.cell 3 rfl
      have a4 := hA.cell 4 rfl
      have a5 := hA.cell 5 rfl
      have x0 := hX.cell 0 rfl
      have x1 := hX.cell 1 rfl
      have x3 := hX.cell 3 rfl
      have x4 := hX.cell 4 rfl
      have hp' := hp.lift (hWB.mono hN)
      have hNW := Nat.le_trans hN hWB.size
      go_wp2_with (go_at_call 16; refine (rLookup_any p _ _ _ _ _ _ _ N _ hp' hNW).mono ?_; rintro e w1 ⟨rfl, hB1⟩; rw [HLV.out])
      go_ret2
      exact ⟨ret_vb (by rw [HR.out]) (by rw [HR.out]), hWB.trans (hB1.mono hWB.size)⟩
  have t2 : (x.kind == 2) = false := beq_eq_false_iff_ne.2 h2
  have HI := Lib.hid (fun y => constV_i16 (p := p) hp.wfc (esz y + 1) y)
  by_cases h5 : x.kind = 5
  · have t5 : (x.kind == 5) = true := beq_iff_eq.2 h5
    by_cases hl : x.args.length = 1
    · have tl : ((x.args.length : Int) != 1) = false := by rw [hl]; rfl
      have hx0 : 0 < x.args.length := by omega
      obtain ⟨y, b, off, vy, hy, rfl, hb, hyw, hya, c0, c1, c2, c3, c4, c5⟩ := ExprsAt.at ha hx0
      have hu := constV_u (p := p) h5 hl hy
      have hmy : esz y < m := by have := esz_mem (List.mem_of_getElem? hy); omega
      have hyi := HI.out y vy N w (Nat.lt_succ_self _) hyw hya
      have HU := Lib.hid hu
      have HL := Lib.hid hl
      clear hu hy h1 h2 h5 hl
      go_enter Tryz.func19, Tryz.ntmps19
      go_upto_region 1 with fail
      obtain ⟨hA, hX⟩ := Blk.two w #[.slice o0 p.consts.length q0, .slice o1 p.globals.length q1, .slice o2 p.sensors.length q2, .slice o3 p.outputs.length q3, .slice o4 p.channels.length q4, .slice o5 p.tasks.length q5] 28 #[.int .i64 x.kind, .string x.name, .int .i16 x.value, .int .i64 x.op, .slice (some ⟨b, off, none⟩) x.args.length ca, .int .i64 x.pos] 40
      have hWB := below_two w (.cells #[.slice o0 p.consts.length q0, .slice o1 p.globals.length q1, .slice o2 p.sensors.length q2, .slice o3 p.outputs.length q3, .slice o4 p.channels.length q4, .slice o5 p.tasks.length q5] 28) (.cells #[.int .i64 x.kind, .string x.name, .int .i16 x.value, .int .i64 x.op, .slice (some ⟨b, off, none⟩) x.args.length ca, .int .i64 x.pos] 40)
      generalize ((w.alloc (.cells #[.slice o0 p.consts.length q0, .slice o1 p.globals.length q1, .slice o2 p.sensors.length q2, .slice o3 p.outputs.length q3, .slice o4 p.channels.length q4, .slice o5 p.tasks.length q5] 28)).alloc (.cells #[.int .i64 x.kind, .string x.name, .int .i16 x.value, .int .i64 x.op, .slice (some ⟨b, off, none⟩) x.args.length ca, .int .i64 x.pos] 40)) = W at hA hX hWB ⊢
      have a0 := hA.cell 0 rfl
      have a1 := hA.cell 1 rfl
      have a2 := hA.cell 2 rfl
      have a3 := hA.cell 3 rfl
      have a4 := hA.cell 4 rfl
      have a5 := hA.cell 5 rfl
      have x0 := hX.cell 0 rfl
      have x1 := hX.cell 1 rfl
      have x3 := hX.cell 3 rfl
      have x4 := hX.cell 4 rfl
      have hp' := hp.lift (hWB.mono hN)
      have hNW := Nat.le_trans hN hWB.size
      have hbN := Nat.lt_of_lt_of_le hb hN
      rw [Nat.zero_mul, Nat.add_zero] at c0 c1 c2 c3 c4 c5
      replace c0 := cell_later c0 hWB
      replace c1 := cell_later c1 hWB
      replace c2 := cell_later c2 hWB
      replace c3 := cell_later c3 hWB
      replace c4 := cell_later c4 hWB
      replace c5 := cell_later c5 hWB
      have hya' := hya.lift (hWB.mono hN)
      cases hyo : (constV p y).2
      · have HR := Lib.hid (show constV p x = (0, false) by rw [HU.out, hyo]; rfl)
        have hcall := fun q : Later W => ih y _ _ _ _ _ _ vy N q.W hmy (hp'.lift (q.h.mono hNW)) hyw (hya'.lift (q.h.mono hNW)) (Nat.le_trans hNW q.h.size)
        rw [hyo] at hcall
        have HC := Lib.hid hcall
        clear hyo hcall
        go_upto_region 12 with fail
        have f0 := fun q : Later W => Later.cell a0 q
        have f1 := fun q : Later W => Later.cell a1 q
        have f2 := fun q : Later W => Later.cell a2 q
        have f3 := fun q : Later W => Later.cell a3 q
        have f4 := fun q : Later W => Later.cell a4 q
        have f5 := fun q : Later W => Later.cell a5 q
        have g4 := fun q : Later W => Later.cell x4 q
        have k0 := fun q : Later W => Later.cell c0 q
        have k1 := fun q : Later W => Later.cell c1 q
        have k2 := fun q : Later W => Later.cell c2 q
        have k3 := fun q : Later W => Later.cell c3 q
        have k4 := fun q : Later W => Later.cell c4 q
        have k5 := fun q : Later W => Later.cell c5 q
        obtain ⟨oy, cy, rfl, _, _, _⟩ := hya'.slice
        refine wp_region_later mixed (by kernel_rfl) ?_
        repeat (go_big_quiet_step (exact Calls.later (HC.out _)))
        refine wpQuiet_nil ?_
        rintro W' ⟨p', hp2⟩
        have hB' : Below W.heap.size W W' := hp2 ▸ p'.h
        clear hp2 p' f0 f1 f2 f3 f4 f5 g4 k0 k1 k2 k3 k4 k5 HC
        replace x3 := cell_later x3 hB'
        go_wp2_with (go_at_call 48; refine (rUnary_any _ _ _ hyi).mono ?_; rintro e w3 ⟨rfl, rfl⟩)
        go_ret2
        exact ⟨ret_vb (by rw [HR.out]) (by rw [HR.out]), hWB.trans (hB'.mono hWB.size)⟩
      · have hcall := fun q : Later W => ih y _ _ _ _ _ _ vy N q.W hmy (hp'.lift (q.h.mono hNW)) hyw (hya'.lift (q.h.mono hNW)) (Nat.le_trans hNW q.h.size)
        have hU := HU.out
        rw [hyo] at hcall hU
        rw [if_pos rfl] at hU
        generalize (constV p y).1 = A at hcall hU hyi
        have HC := Lib.hid hcall
        clear hyo hcall
        go_upto_region 12 with fail
        have f0 := fun q : Later W => Later.cell a0 q
        have f1 := fun q : Later W => Later.cell a1 q
        have f2 := fun q : Later W => Later.cell a2 q
        have f3 := fun q : Later W => Later.cell a3 q
        have f4 := fun q : Later W => Later.cell a4 q
        have f5 := fun q : Later W => Later.cell a5 q
        have g4 := fun q : Later W => Later.cell x4 q
        have k0 := fun q : Later W => Later.cell c0 q
        have k1 := fun q : Later W => Later.cell c1 q
        have k2 := fun q : Later W => Later.cell c2 q
        have k3 := fun q : Later W => Later.cell c3 q
        have k4 := fun q : Later W => Later.cell c4 q
        have k5 := fun q : Later W => Later.cell c5 q
        obtain ⟨oy, cy, rfl, _, _, _⟩ := hya'.slice
        refine wp_region_later mixed (by kernel_rfl) ?_
        repeat (go_big_quiet_step (exact Calls.later (HC.out _)))
        refine wpQuiet_nil ?_
        rintro W' ⟨p', hp2⟩
        have hB' : Below W.heap.size W W' := hp2 ▸ p'.h
        clear hp2 p' f0 f1 f2 f3 f4 f5 g4 k0 k1 k2 k3 k4 k5 HC
        replace x3 := cell_later x3 hB'
        have HU2 := Lib.hid hU
        clear hU
        cases he : ((wun x.op A).2 == 0)
        · have te : ((wun x.op A).2 != 0) = true := by simp [bne, he]
          have HR := Lib.hid (HU2.out.trans (wun_err he))
          clear he
          go_wp2_with (go_at_call 48; refine (rUnary_any _ _ _ hyi).mono ?_; rintro e w3 ⟨rfl, rfl⟩)
          go_ret2
          exact ⟨ret_vb (by rw [HR.out]) (by rw [HR.out]), hWB.trans (hB'.mono hWB.size)⟩
        · have te : ((wun x.op A).2 != 0) = false := by simp [bne, he]
          have HR := Lib.hid (show constV p x = ((wun x.op A).1, true) by rw [HU2.out, cun, he])
          clear he
          go_wp2_with (go_at_call 48; refine (rUnary_any _ _ _ hyi).mono ?_; rintro e w3 ⟨rfl, rfl⟩)
          go_ret2
          exact ⟨ret_vb (by rw [HR.out]) (by rw [HR.out]), hWB.trans (hB'.mono hWB.size)⟩
    · have tl : ((x.args.length : Int) != 1) = true := by simp; omega
      have HR := Lib.hid (constV_ul (p := p) h5 hl)
      clear h1 h2 h5 hl
      go_enter Tryz.func19, Tryz.ntmps19
      go_upto_region 1 with fail
      obtain ⟨hA, hX⟩ := Blk.two w #[.slice o0 p.consts.length q0, .slice o1 p.globals.length q1, .slice o2 p.sensors.length q2, .slice o3 p.outputs.length q3, .slice o4 p.channels.length q4, .slice o5 p.tasks.length q5] 28 #[.int .i64 x.kind, .string x.name, .int .i16 x.value, .int .i64 x.op, .slice oa x.args.length ca, .int .i64 x.pos] 40
      have hWB := below_two w (.cells #[.slice o0 p.consts.length q0, .slice o1 p.globals.length q1, .slice o2 p.sensors.length q2, .slice o3 p.outputs.length q3, .slice o4 p.channels.length q4, .slice o5 p.tasks.length q5] 28) (.cells #[.int .i64 x.kind, .string x.name, .int .i16 x.value, .int .i64 x.op, .slice oa x.args.length ca, .int .i64 x.pos] 40)
      generalize ((w.alloc (.cells #[.slice o0 p.consts.length q0, .slice o1 p.globals.length q1, .slice o2 p.sensors.length q2, .slice o3 p.outputs.length q3, .slice o4 p.channels.length q4, .slice o5 p.tasks.length q5] 28)).alloc (.cells #[.int .i64 x.kind, .string x.name, .int .i16 x.value, .int .i64 x.op, .slice oa x.args.length ca, .int .i64 x.pos] 40)) = W at hA hX hWB ⊢
      have a0 := hA.cell 0 rfl
      have a1 := hA.cell 1 rfl
      have a2 := hA.cell 2 rfl
      have a3 := hA.cell 3 rfl
      have a4 := hA.cell 4 rfl
      have a5 := hA.cell 5 rfl
      have x0 := hX.cell 0 rfl
      have x1 := hX.cell 1 rfl
      have x3 := hX.cell 3 rfl
      have x4 := hX.cell 4 rfl
      have hp' := hp.lift (hWB.mono hN)
      have hNW := Nat.le_trans hN hWB.size
      go_wp2_with fail
      go_ret2
      exact ⟨ret_vb (by rw [HR.out]) (by rw [HR.out]), hWB⟩
  have t5 : (x.kind == 5) = false := beq_eq_false_iff_ne.2 h5
  by_cases h6 : x.kind = 6
  · by_cases hl : x.args.length = 2
    · have tl : ((x.args.length : Int) != 2) = false := by rw [hl]; rfl
      have t6 : (x.kind == 6) = true := beq_iff_eq.2 h6
      have hx0 : 0 < x.args.length := by omega
      have hx1 : 1 < x.args.length := by omega
      obtain ⟨y, b, off, vy, hy, rfl, hb, hyw, hya, c0, c1, c2, c3, c4, c5⟩ := ExprsAt.at ha hx0
      obtain ⟨z, b', off', vz, hz, hbb, hb', hzw, hza, d0, d1, d2, d3, d4, d5⟩ := ExprsAt.at ha hx1
      cases hbb
      have hu := constV_b (p := p) h6 hl hy hz
      have hmy : esz y < m := by have := esz_mem (List.mem_of_getElem? hy); omega
      have hmz : esz z < m := by have := esz_mem (List.mem_of_getElem? hz); omega
      have hyi := HI.out y vy N w (Nat.lt_succ_self _) hyw hya
      have hzi := HI.out z vz N w (Nat.lt_succ_self _) hzw hza
      have HU := Lib.hid hu
      have HL := Lib.hid hl
      clear hu hy hz h1 h2 h5 h6 hl
      go_enter Tryz.func19, Tryz.ntmps19
      go_upto_region 1 with fail
      obtain ⟨hA, hX⟩ := Blk.two w #[.slice o0 p.consts.length q0, .slice o1 p.globals.length q1, .slice o2 p.sensors.length q2, .slice o3 p.outputs.length q3, .slice o4 p.channels.length q4, .slice o5 p.tasks.length q5] 28 #[.int .i64 x.kind, .string x.name, .int .i16 x.value, .int .i64 x.op, .slice (some ⟨b, off, none⟩) x.args.length ca, .int .i64 x.pos] 40
      have hWB := below_two w (.cells #[.slice o0 p.consts.length q0, .slice o1 p.globals.length q1, .slice o2 p.sensors.length q2, .slice o3 p.outputs.length q3, .slice o4 p.channels.length q4, .slice o5 p.tasks.length q5] 28) (.cells #[.int .i64 x.kind, .string x.name, .int .i16 x.value, .int .i64 x.op, .slice (some ⟨b, off, none⟩) x.args.length ca, .int .i64 x.pos] 40)
      generalize ((w.alloc (.cells #[.slice o0 p.consts.length q0, .slice o1 p.globals.length q1, .slice o2 p.sensors.length q2, .slice o3 p.outputs.length q3, .slice o4 p.channels.length q4, .slice o5 p.tasks.length q5] 28)).alloc (.cells #[.int .i64 x.kind, .string x.name, .int .i16 x.value, .int .i64 x.op, .slice (some ⟨b, off, none⟩) x.args.length ca, .int .i64 x.pos] 40)) = W at hA hX hWB ⊢
      have a0 := hA.cell 0 rfl
      have a1 := hA.cell 1 rfl
      have a2 := hA.cell 2 rfl
      have a3 := hA.cell 3 rfl
      have a4 := hA.cell 4 rfl
      have a5 := hA.cell 5 rfl
      have x0 := hX.cell 0 rfl
      have x1 := hX.cell 1 rfl
      have x3 := hX.cell 3 rfl
      have x4 := hX.cell 4 rfl
      have hp' := hp.lift (hWB.mono hN)
      have hNW := Nat.le_trans hN hWB.size
      rw [Nat.zero_mul, Nat.add_zero] at c0 c1 c2 c3 c4 c5
      rw [Nat.one_mul] at d0 d1 d2 d3 d4 d5
      replace c0 := cell_later c0 hWB
      replace c1 := cell_later c1 hWB
      replace c2 := cell_later c2 hWB
      replace c3 := cell_later c3 hWB
      replace c4 := cell_later c4 hWB
      replace c5 := cell_later c5 hWB
      replace d0 := cell_later d0 hWB
      replace d1 := cell_later d1 hWB
      replace d2 := cell_later d2 hWB
      replace d3 := cell_later d3 hWB
      replace d4 := cell_later d4 hWB
      replace d5 := cell_later d5 hWB
      have hya' := hya.lift (hWB.mono hN)
      have hza' := hza.lift (hWB.mono hN)
      have HC1 := Lib.hid (fun q : Later W => ih y _ _ _ _ _ _ vy N q.W hmy (hp'.lift (q.h.mono hNW)) hyw (hya'.lift (q.h.mono hNW)) (Nat.le_trans hNW q.h.size))
      obtain ⟨oy, cy, rfl, _, _, _⟩ := hya'.slice
      obtain ⟨oz, cz, rfl, _, _, _⟩ := hza'.slice
      go_upto_region 20 with fail
      have f0 := fun q : Later W => Later.cell a0 q
      have f1 := fun q : Later W => Later.cell a1 q
      have f2 := fun q : Later W => Later.cell a2 q
      have f3 := fun q : Later W => Later.cell a3 q
      have f4 := fun q : Later W => Later.cell a4 q
      have f5 := fun q : Later W => Later.cell a5 q
      have g4 := fun q : Later W => Later.cell x4 q
      have k0 := fun q : Later W => Later.cell c0 q
      have k1 := fun q : Later W => Later.cell c1 q
      have k2 := fun q : Later W => Later.cell c2 q
      have k3 := fun q : Later W => Later.cell c3 q
      have k4 := fun q : Later W => Later.cell c4 q
      have k5 := fun q : Later W => Later.cell c5 q
      refine wp_region_later mixed (by kernel_rfl) ?_
      repeat (go_big_quiet_step (exact Calls.later (HC1.out _)))
      refine wpQuiet_nil ?_
      rintro W1 ⟨p', hp2⟩
      have hB1 : Below W.heap.size W W1 := hp2 ▸ p'.h
      clear hp2 p' f0 f1 f2 f3 f4 f5 g4 k0 k1 k2 k3 k4 k5 HC1
      replace a0 := cell_later a0 hB1
      replace a1 := cell_later a1 hB1
      replace a2 := cell_later a2 hB1
      replace a3 := cell_later a3 hB1
      replace a4 := cell_later a4 hB1
      replace a5 := cell_later a5 hB1
      replace x3 := cell_later x3 hB1
      replace x4 := cell_later x4 hB1
      replace d0 := cell_later d0 hB1
      replace d1 := cell_later d1 hB1
      replace d2 := cell_later d2 hB1
      replace d3 := cell_later d3 hB1
      replace d4 := cell_later d4 hB1
      replace d5 := cell_later d5 hB1
      have hp1 := hp'.lift (hB1.mono hNW)
      have hza1 := hza'.lift (hB1.mono hNW)
      have hN1 := Nat.le_trans hNW hB1.size
      have HC2 := Lib.hid (fun q : Later W1 => ih z _ _ _ _ _ _ _ N q.W hmz (hp1.lift (q.h.mono hN1)) hzw (hza1.lift (q.h.mono hN1)) (Nat.le_trans hN1 q.h.size))
      go_upto_region 21 with fail
      have f0 := fun q : Later W1 => Later.cell a0 q
      have f1 := fun q : Later W1 => Later.cell a1 q
      have f2 := fun q : Later W1 => Later.cell a2 q
      have f3 := fun q : Later W1 => Later.cell a3 q
      have f4 := fun q : Later W1 => Later.cell a4 q
      have f5 := fun q : Later W1 => Later.cell a5 q
      have g4 := fun q : Later W1 => Later.cell x4 q
      have k0 := fun q : Later W1 => Later.cell d0 q
      have k1 := fun q : Later W1 => Later.cell d1 q
      have k2 := fun q : Later W1 => Later.cell d2 q
      have k3 := fun q : Later W1 => Later.cell d3 q
      have k4 := fun q : Later W1 => Later.cell d4 q
      have k5 := fun q : Later W1 => Later.cell d5 q
      refine wp_region_later mixed (by kernel_rfl) ?_
      repeat (go_big_quiet_step (exact Calls.later (HC2.out _)))
      refine wpQuiet_nil ?_
      rintro W2 ⟨p', hp2⟩
      have hB2 : Below W1.heap.size W1 W2 := hp2 ▸ p'.h
      clear hp2 p' f0 f1 f2 f3 f4 f5 g4 k0 k1 k2 k3 k4 k5 HC2
      replace x3 := cell_later x3 hB2
      have hfin : Below w.heap.size w W2 := hWB.trans ((hB1.trans (hB2.mono hB1.size)).mono hWB.size)
      have hU := HU.out
      clear HU
      generalize hAy : (constV p y) = Ay at *
      generalize hAz : (constV p z) = Az at *
      clear hAy hAz
      obtain ⟨A, oA⟩ := Ay
      obtain ⟨D, oD⟩ := Az
      simp only at hU hyi hzi
      cases oA
      · have HR := Lib.hid hU
        clear hU
        go_wp2_with (go_at_call 49; refine (rBinary_any _ _ _ _ hyi hzi).mono ?_; rintro e w3 ⟨rfl, rfl⟩)
        go_ret2
        exact ⟨ret_vb (by rw [HR.out]; try rfl) (by rw [HR.out]; try rfl), hfin⟩
      cases oD
      · have HR := Lib.hid hU
        clear hU
        go_wp2_with (go_at_call 49; refine (rBinary_any _ _ _ _ hyi hzi).mono ?_; rintro e w3 ⟨rfl, rfl⟩)
        go_ret2
        exact ⟨ret_vb (by rw [HR.out]; try rfl) (by rw [HR.out]; try rfl), hfin⟩
      have hU' : constV p x = cbin x.op A D := hU
      clear hU
      by_cases q14 : x.op = 14
      · have t14 : (x.op == 14) = true := beq_iff_eq.2 q14
        have t15 : (x.op == 15) = false := beq_eq_false_iff_ne.2 (by omega)
        have hr : constV p x = (b2i ((A != 0) && (D != 0)), true) := by rw [hU']; simp only [cbin, q14, if_true, bne_dec]
        clear q14 hU'
        cases hA0 : (A != 0) <;> cases hD0 : (D != 0)
        all_goals rw [hA0, hD0] at hr
        all_goals have HR := Lib.hid hr
        all_goals clear hr
        all_goals go_wp2_with (go_at_call 49; refine (rBinary_any _ _ _ _ hyi hzi).mono ?_; rintro e w3 ⟨rfl, rfl⟩)
        all_goals go_ret2
        all_goals exact ⟨ret_vb (by rw [HR.out]; try rfl) (by rw [HR.out]; try rfl), hfin⟩
      have t14 : (x.op == 14) = false := beq_eq_false_iff_ne.2 q14
      by_cases q15 : x.op = 15
      · have t15 : (x.op == 15) = true := beq_iff_eq.2 q15
        have hr : constV p x = (b2i ((A != 0) || (D != 0)), true) := by rw [hU']; simp only [cbin, q14, q15, if_true, if_false, bne_dec]; rfl
        clear q14 q15 hU'
        cases hA0 : (A != 0) <;> cases hD0 : (D != 0)
        all_goals rw [hA0, hD0] at hr
        all_goals have HR := Lib.hid hr
        all_goals clear hr
        all_goals go_wp2_with (go_at_call 49; refine (rBinary_any _ _ _ _ hyi hzi).mono ?_; rintro e w3 ⟨rfl, rfl⟩)
        all_goals go_ret2
        all_goals exact ⟨ret_vb (by rw [HR.out]; try rfl) (by rw [HR.out]; try rfl), hfin⟩
      have t15 : (x.op == 15) = false := beq_eq_false_iff_ne.2 q15
      have hc : constV p x = ((wbin x.op A D).1, (wbin x.op A D).2 == 0) := by rw [hU']; simp only [cbin, q14, q15, if_false]
      clear q14 q15 hU'
      cases he : ((wbin x.op A D).2 == 0)
      · have te : ((wbin x.op A D).2 != 0) = true := by simp [bne, he]
        have HR := Lib.hid (show constV p x = (0, false) by rw [hc, he, wbin_err he])
        clear he hc
        go_wp2_with (go_at_call 49; refine (rBinary_any _ _ _ _ hyi hzi).mono ?_; rintro e w3 ⟨rfl, rfl⟩)
        go_ret2
        exact ⟨ret_vb (by rw [HR.out]; try rfl) (by rw [HR.out]; try rfl), hfin⟩
      · have te : ((wbin x.op A D).2 != 0) = false := by simp [bne, he]
        have HR := Lib.hid (show constV p x = ((wbin x.op A D).1, true) by rw [hc, he])
        clear he hc
        go_wp2_with (go_at_call 49; refine (rBinary_any _ _ _ _ hyi hzi).mono ?_; rintro e w3 ⟨rfl, rfl⟩)
        go_ret2
        exact ⟨ret_vb (by rw [HR.out]; try rfl) (by rw [HR.out]; try rfl), hfin⟩
    · have tl : ((x.args.length : Int) != 2) = true := by simp; omega
      have t6 : (x.kind == 6) = true := beq_iff_eq.2 h6
      have HR := Lib.hid (constV_bl (p := p) h6 hl)
      clear h1 h2 h5 h6 hl
      go_enter Tryz.func19, Tryz.ntmps19
      go_upto_region 1 with fail
      obtain ⟨hA, hX⟩ := Blk.two w #[.slice o0 p.consts.length q0, .slice o1 p.globals.length q1, .slice o2 p.sensors.length q2, .slice o3 p.outputs.length q3, .slice o4 p.channels.length q4, .slice o5 p.tasks.length q5] 28 #[.int .i64 x.kind, .string x.name, .int .i16 x.value, .int .i64 x.op, .slice oa x.args.length ca, .int .i64 x.pos] 40
      have hWB := below_two w (.cells #[.slice o0 p.consts.length q0, .slice o1 p.globals.length q1, .slice o2 p.sensors.length q2, .slice o3 p.outputs.length q3, .slice o4 p.channels.length q4, .slice o5 p.tasks.length q5] 28) (.cells #[.int .i64 x.kind, .string x.name, .int .i16 x.value, .int .i64 x.op, .slice oa x.args.length ca, .int .i64 x.pos] 40)
      generalize ((w.alloc (.cells #[.slice o0 p.consts.length q0, .slice o1 p.globals.length q1, .slice o2 p.sensors.length q2, .slice o3 p.outputs.length q3, .slice o4 p.channels.length q4, .slice o5 p.tasks.length q5] 28)).alloc (.cells #[.int .i64 x.kind, .string x.name, .int .i16 x.value, .int .i64 x.op, .slice oa x.args.length ca, .int .i64 x.pos] 40)) = W at hA hX hWB ⊢
      have a0 := hA.cell 0 rfl
      have a1 := hA.cell 1 rfl
      have a2 := hA.cell 2 rfl
      have a3 := hA.cell 3 rfl
      have a4 := hA.cell 4 rfl
      have a5 := hA.cell 5 rfl
      have x0 := hX.cell 0 rfl
      have x1 := hX.cell 1 rfl
      have x3 := hX.cell 3 rfl
      have x4 := hX.cell 4 rfl
      have hp' := hp.lift (hWB.mono hN)
      have hNW := Nat.le_trans hN hWB.size
      go_wp2_with fail
      go_ret2
      exact ⟨ret_vb (by rw [HR.out]) (by rw [HR.out]), hWB⟩
  · have t6 : (x.kind == 6) = false := beq_eq_false_iff_ne.2 h6
    have HR := Lib.hid (constV_o (p := p) h1 h2 h5 h6)
    clear h1 h2 h5 h6
    go_enter Tryz.func19, Tryz.ntmps19
    go_upto_region 1 with fail
    obtain ⟨hA, hX⟩ := Blk.two w #[.slice o0 p.consts.length q0, .slice o1 p.globals.length q1, .slice o2 p.sensors.length q2, .slice o3 p.outputs.length q3, .slice o4 p.channels.length q4, .slice o5 p.tasks.length q5] 28 #[.int .i64 x.kind, .string x.name, .int .i16 x.value, .int .i64 x.op, .slice oa x.args.length ca, .int .i64 x.pos] 40
    have hWB := below_two w (.cells #[.slice o0 p.consts.length q0, .slice o1 p.globals.length q1, .slice o2 p.sensors.length q2, .slice o3 p.outputs.length q3, .slice o4 p.channels.length q4, .slice o5 p.tasks.length q5] 28) (.cells #[.int .i64 x.kind, .string x.name, .int .i16 x.value, .int .i64 x.op, .slice oa x.args.length ca, .int .i64 x.pos] 40)
    generalize ((w.alloc (.cells #[.slice o0 p.consts.length q0, .slice o1 p.globals.length q1, .slice o2 p.sensors.length q2, .slice o3 p.outputs.length q3, .slice o4 p.channels.length q4, .slice o5 p.tasks.length q5] 28)).alloc (.cells #[.int .i64 x.kind, .string x.name, .int .i16 x.value, .int .i64 x.op, .slice oa x.args.length ca, .int .i64 x.pos] 40)) = W at hA hX hWB ⊢
    have a0 := hA.cell 0 rfl
    have a1 := hA.cell 1 rfl
    have a2 := hA.cell 2 rfl
    have a3 := hA.cell 3 rfl
    have a4 := hA.cell 4 rfl
    have a5 := hA.cell 5 rfl
    have x0 := hX.cell 0 rfl
    have x1 := hX.cell 1 rfl
    have x3 := hX.cell 3 rfl
    have x4 := hX.cell 4 rfl
    have hp' := hp.lift (hWB.mono hN)
    have hNW := Nat.le_trans hN hWB.size
    go_wp2_with fail
    go_ret2
    exact ⟨ret_vb (by rw [HR.out]) (by rw [HR.out]), hWB⟩
end Go.Proofs.YtkfdnlfkomhmfaaGreatDoor
