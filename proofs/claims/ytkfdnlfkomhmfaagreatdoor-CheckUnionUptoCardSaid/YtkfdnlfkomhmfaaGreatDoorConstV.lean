/- check.ConstValue. -/
import Derived.Test.YtkfdnlfkomhmfaaGreatDoorCbin
import Derived.Test.YtkfdnlfkomhmfaaGreatDoorBlk
namespace Go.Proofs.YtkfdnlfkomhmfaaGreatDoor
open Go.RowKit
set_option linter.unusedVariables false
set_option linter.unusedSimpArgs false

/-- a name found as a constant is one -/
theorem look_const {p : Prog} {s : ByteArray} (h : lookK (namesOf p) s = 1) : ∃ (k : Nat) (x : Const), p.consts[k]? = some x ∧ lookI (namesOf p) s = (k : Int) := by
  unfold lookK at h
  unfold lookI
  cases hf : (namesOf p).find? fun d => decide (d.name = s) with
  | none => rw [hf] at h; simp at h
  | some d =>
    rw [hf] at h
    simp only [Option.map_some, Option.getD_some] at h ⊢
    have hm := List.mem_of_find?_eq_some hf
    simp only [namesOf, List.mem_append] at hm
    rcases hm with ((((hd | hd) | hd) | hd) | hd) | hd <;> obtain ⟨k, x, hx, rfl⟩ := mem_idx hd
    · exact ⟨k, x, hx, rfl⟩
    · simp only [nmG, gkind] at h; split at h <;> omega
    · simp [nmS] at h
    · simp [nmO] at h
    · simp [nmH] at h
    · simp [nmT] at h

def i16Cells (i : Int) : List Value := [.int .i16 i]
theorem i16_len (x : Int) : (i16Cells x).length = 1 := rfl
theorem i16_one (x : Int) : ∀ u ∈ i16Cells x, u.oneCell' = true := by intro u hu; simp [i16Cells] at hu; subst hu; rfl
theorem infoI16 : (Tryz.prog.info? 37).map (fun i => (i.zero, i.size, i.bytes)) = some (some (.int .i16 0), 1, 2) := by kernel_rfl
theorem OwnAt.i16At {E : TypeId} {B : Nat} {w : World} {oa : Option Addr} {n cap : Nat} {l : List Int} (h : OwnAt i16Cells 1 E B w (.slice oa n cap) l) {k : Nat} (hk : k < l.length) :
    ∃ b, oa = some ⟨b, 0, none⟩ ∧ b < w.heap.size ∧ w.cell? ⟨b, k, none⟩ = some (.int .i16 (l.getD k 0)) := by
  have hh := h
  rcases h.2 with ⟨e, hn⟩ | ⟨g, cap', cur, e, hg, hw, h1, h2, h3, h4⟩
  · omega
  · cases e
    refine ⟨g, rfl, (Array.getElem?_eq_some_iff.1 hw).1, ?_⟩
    have hcell := World.ownsRow.cellAt hh k (by omega)
    have := flat_get (f := i16Cells) i16_len l k 0 hk (by omega)
    rw [Nat.mul_one, Nat.add_zero] at this
    rw [this] at hcell
    exact hcell

theorem constV_1 {p : Prog} {x : Expr} (h : x.kind = 1) : constV p x = (x.value, true) := by rw [constV_eq, if_pos h]
theorem constV_2 {p : Prog} {x : Expr} (h1 : ¬ x.kind = 1) (h : x.kind = 2) : constV p x = (if lookK (namesOf p) x.name = 1 then ((p.consts.getD (lookI (namesOf p) x.name).toNat default).value, true) else (0, false)) := by
  rw [constV_eq, if_neg h1, if_pos h]
theorem constV_n {p : Prog} {x : Expr} (h1 : ¬ x.kind = 1) (h : ¬ x.kind = 2) : constV p x = (match constVs p x.args with
      | none => (0, false)
      | some vs => if x.kind = 5 ∧ vs.length = 1 then cun x.op (vs.getD 0 0) else if x.kind = 6 ∧ vs.length = 2 then cbin x.op (vs.getD 0 0) (vs.getD 1 0) else (0, false)) := by
  rw [constV_eq, if_neg h1, if_neg h]
  cases constVs p x.args <;> rfl
theorem constVs_bad {p : Prog} {l : List Expr} {k : Nat} {x : Expr} (hx : l[k]? = some x) (h : (constV p x).2 = false) : constVs p l = none := by
  induction l generalizing k with
  | nil => simp at hx
  | cons y l ih =>
    simp only [constVs]
    cases k with
    | zero =>
      simp at hx; subst hx
      rcases hv : constV p y with ⟨v, _ | _⟩
      · rfl
      · rw [hv] at h; simp at h
    | succ k =>
      have := ih (k := k) (by simpa using hx)
      rcases constV p y with ⟨v, _ | _⟩
      · rfl
      · simp [this]
theorem eszs_mem {l : List Expr} {y : Expr} (h : y ∈ l) : esz y ≤ eszs l := by
  induction l with
  | nil => simp at h
  | cons z l ih =>
    simp only [eszs]
    rcases List.mem_cons.1 h with rfl | h
    · omega
    · have := ih h; omega
theorem esz_mem {x y : Expr} (h : y ∈ x.args) : esz y < esz x := by have := eszs_mem h; rw [esz_eq x]; omega
theorem i16_0 : I16 0 := by unfold I16; omega

set_option maxRecDepth 100000 in
set_option maxHeartbeats 8000000 in
theorem ConstValue_any (p : Prog) : ∀ (m : Nat) (x : Expr) (v0 v1 v2 v3 v4 v5 va : Value) (N : Nat) (w : World), esz x < m → ProgAt N w v0 v1 v2 v3 v4 v5 p → x.Wf → ExprsAt N w va x.args → N ≤ w.heap.size →
    Calls Tryz.prog 18 #[.agg #[v0, v1, v2, v3, v4, v5], .agg #[.int .i64 x.kind, .string x.name, .int .i16 x.value, .int .i64 x.op, va, .int .i64 x.pos]] w fun e w' =>
      (e = .returned (.tuple #[.int .i16 (constV p x).1, .bool (constV p x).2]) ∧ I16 (constV p x).1) ∧ Below w.heap.size w w' := by
  intro m
  induction m with
  | zero => intro x v0 v1 v2 v3 v4 v5 va N w hm; omega
  | succ m ih =>
  intro x v0 v1 v2 v3 v4 v5 va N w hm hp hwf ha hN
  obtain ⟨o0, q0, rfl, _, _, n0⟩ := SliceAt.slice hp.consts
  obtain ⟨o1, q1, rfl, _, _, n1⟩ := SliceAt.slice hp.globals
  obtain ⟨o2, q2, rfl, _, _, n2⟩ := SliceAt.slice hp.sensors
  obtain ⟨o3, q3, rfl, _, _, n3⟩ := SliceAt.slice hp.outputs
  obtain ⟨o4, q4, rfl, _, _, n4⟩ := SliceAt.slice hp.channels
  obtain ⟨o5, q5, rfl, _, _, n5⟩ := hp.tasks.slice
  obtain ⟨oa, ca, rfl, _, _, na⟩ := ha.slice
  have hval := hwf.2.2.1
  by_cases h1 : x.kind = 1
  · have t1 : (x.kind == 1) = true := beq_iff_eq.2 h1
    have HR := Lib.hid (constV_1 (p := p) h1)
    clear h1
    go_enter Tryz.func18, Tryz.ntmps18
    go_wp2_with fail
    go_ret2
    exact ⟨⟨ret_vb (by rw [HR.out]) (by rw [HR.out]), by rw [HR.out]; exact hval⟩, below_two _ _ _⟩
  · have t1 : (x.kind == 1) = false := beq_eq_false_iff_ne.2 h1
    by_cases h2 : x.kind = 2
    · have t2 : (x.kind == 2) = true := beq_iff_eq.2 h2
      have hr := constV_2 (p := p) h1 h2
      clear h1 h2
      by_cases hk : lookK (namesOf p) x.name = 1
      · obtain ⟨k, c, hc, hi⟩ := look_const hk
        rw [if_pos hk, hi] at hr
        have tk : (lookK (namesOf p) x.name == 1) = true := beq_iff_eq.2 hk
        have hLV : lookV (namesOf p) x.name = .tuple #[.int .i64 (lookK (namesOf p) x.name), .int .i64 (k : Int), .bool (lookB (namesOf p) x.name)] := by rw [lookV, hi]
        have hkl : k < p.consts.length := (List.getElem?_eq_some_iff.1 hc).1
        have hcd : p.consts.getD k default = c := by simp [List.getD, hc]
        have hcw := hp.wfc k hkl
        rw [hcd] at hcw
        simp only [Int.toNat_natCast, hcd] at hr
        have HR := Lib.hid hr
        generalize lookK (namesOf p) x.name = K at tk hLV
        generalize lookB (namesOf p) x.name = Bk at hLV
        have HLV := Lib.hid hLV
        clear hr hk hi hLV hcd
        have HC := Lib.hid hc
        clear hc
        go_enter Tryz.func18, Tryz.ntmps18
        go_upto_region 1 with fail
        obtain ⟨hA, hX⟩ := Blk.two w #[.slice o0 p.consts.length q0, .slice o1 p.globals.length q1, .slice o2 p.sensors.length q2, .slice o3 p.outputs.length q3, .slice o4 p.channels.length q4, .slice o5 p.tasks.length q5] 28 #[.int .i64 x.kind, .string x.name, .int .i16 x.value, .int .i64 x.op, .slice oa x.args.length ca, .int .i64 x.pos] 40
        have hWB := below_two w (.cells #[.slice o0 p.consts.length q0, .slice o1 p.globals.length q1, .slice o2 p.sensors.length q2, .slice o3 p.outputs.length q3, .slice o4 p.channels.length q4, .slice o5 p.tasks.length q5] 28) (.cells #[.int .i64 x.kind, .string x.name, .int .i16 x.value, .int .i64 x.op, .slice oa x.args.length ca, .int .i64 x.pos] 40)
        generalize ((w.alloc (.cells #[.slice o0 p.consts.length q0, .slice o1 p.globals.length q1, .slice o2 p.sensors.length q2, .slice o3 p.outputs.length q3, .slice o4 p.channels.length q4, .slice o5 p.tasks.length q5] 28)).alloc (.cells #[.int .i64 x.kind, .string x.name, .int .i16 x.value, .int .i64 x.op, .slice oa x.args.length ca, .int .i64 x.pos] 40)) = W at hA hX hWB ⊢
        have a0 := hA.cell 0 rfl
        have a1 := hA.cell 1 rfl
        have a2 := hA.cell 2 rfl
        have a3 := hA.cell 3 rfl
        have a4 := hA.cell 4 rfl
        have a5 := hA.cell 5 rfl
        have x0 := hX.cell 0 rfl
        have x1 := hX.cell 1 rfl
        have hp' := hp.lift (hWB.mono hN)
        have hNW := Nat.le_trans hN hWB.size
        go_wp2_with (go_at_call 15; refine (Lookup_any p _ _ _ _ _ _ _ N _ hp' hNW).mono ?_; rintro e w1 ⟨rfl, hB1⟩; rw [HLV.out]; have b0 := (hA.later hB1).cell 0 rfl; obtain ⟨c', b, off, hc', rfl, hb, c0, c1, c2⟩ := ConstsAt.at (SliceAt.lift hp'.consts (hB1.mono hNW)) hkl; obtain rfl : c' = c := (Option.some.inj (hc'.symm.trans HC.out)); clear hc')
        go_ret2
        exact ⟨⟨ret_vb (by rw [HR.out]) (by rw [HR.out]), by rw [HR.out]; exact hcw.2.1⟩, hWB.trans (hB1.mono hWB.size)⟩
      · rw [if_neg hk] at hr
        have tk : (lookK (namesOf p) x.name == 1) = false := beq_eq_false_iff_ne.2 hk
        have HR := Lib.hid hr
        have HLV := Lib.hid (show lookV (namesOf p) x.name = .tuple #[.int .i64 (lookK (namesOf p) x.name), .int .i64 (lookI (namesOf p) x.name), .bool (lookB (namesOf p) x.name)] from rfl)
        generalize lookK (namesOf p) x.name = K at tk HLV
        generalize lookI (namesOf p) x.name = I at HLV
        generalize lookB (namesOf p) x.name = Bk at HLV
        clear hr hk
        go_enter Tryz.func18, Tryz.ntmps18
        go_upto_region 1 with fail
        obtain ⟨hA, hX⟩ := Blk.two w #[.slice o0 p.consts.length q0, .slice o1 p.globals.length q1, .slice o2 p.sensors.length q2, .slice o3 p.outputs.length q3, .slice o4 p.channels.length q4, .slice o5 p.tasks.length q5] 28 #[.int .i64 x.kind, .string x.name, .int .i16 x.value, .int .i64 x.op, .slice oa x.args.length ca, .int .i64 x.pos] 40
        have hWB := below_two w (.cells #[.slice o0 p.consts.length q0, .slice o1 p.globals.length q1, .slice o2 p.sensors.length q2, .slice o3 p.outputs.length q3, .slice o4 p.channels.length q4, .slice o5 p.tasks.length q5] 28) (.cells #[.int .i64 x.kind, .string x.name, .int .i16 x.value, .int .i64 x.op, .slice oa x.args.length ca, .int .i64 x.pos] 40)
        generalize ((w.alloc (.cells #[.slice o0 p.consts.length q0, .slice o1 p.globals.length q1, .slice o2 p.sensors.length q2, .slice o3 p.outputs.length q3, .slice o4 p.channels.length q4, .slice o5 p.tasks.length q5] 28)).alloc (.cells #[.int .i64 x.kind, .string x.name, .int .i16 x.value, .int .i64 x.op, .slice oa x.args.length ca, .int .i64 x.pos] 40)) = W at hA hX hWB ⊢
        have a0 := hA.cell 0 rfl
        have a1 := hA.cell 1 rfl
        have a2 := hA.cell 2 rfl
        have a3 := hA.cell 3 rfl
        have a4 := hA.cell 4 rfl
        have a5 := hA.cell 5 rfl
        have x0 := hX.cell 0 rfl
        have x1 := hX.cell 1 rfl
        have hp' := hp.lift (hWB.mono hN)
        have hNW := Nat.le_trans hN hWB.size
        go_wp2_with (go_at_call 15; refine (Lookup_any p _ _ _ _ _ _ _ N _ hp' hNW).mono ?_; rintro e w1 ⟨rfl, hB1⟩; rw [HLV.out])
        go_ret2
        exact ⟨⟨ret_vb (by rw [HR.out]) (by rw [HR.out]), by rw [HR.out]; exact i16_0⟩, hWB.trans (hB1.mono hWB.size)⟩
    · have t2 : (x.kind == 2) = false := beq_eq_false_iff_ne.2 h2
      have hr := constV_n (p := p) h1 h2
      have HK := Lib.hid hr
      clear h1 h2 hr
      go_enter Tryz.func18, Tryz.ntmps18
      go_upto_region 1 with fail
      obtain ⟨hA, hX⟩ := Blk.two w #[.slice o0 p.consts.length q0, .slice o1 p.globals.length q1, .slice o2 p.sensors.length q2, .slice o3 p.outputs.length q3, .slice o4 p.channels.length q4, .slice o5 p.tasks.length q5] 28 #[.int .i64 x.kind, .string x.name, .int .i16 x.value, .int .i64 x.op, .slice oa x.args.length ca, .int .i64 x.pos] 40
      have hWB := below_two w (.cells #[.slice o0 p.consts.length q0, .slice o1 p.globals.length q1, .slice o2 p.sensors.length q2, .slice o3 p.outputs.length q3, .slice o4 p.channels.length q4, .slice o5 p.tasks.length q5] 28) (.cells #[.int .i64 x.kind, .string x.name, .int .i16 x.value, .int .i64 x.op, .slice oa x.args.length ca, .int .i64 x.pos] 40)
      generalize ((w.alloc (.cells #[.slice o0 p.consts.length q0, .slice o1 p.globals.length q1, .slice o2 p.sensors.length q2, .slice o3 p.outputs.length q3, .slice o4 p.channels.length q4, .slice o5 p.tasks.length q5] 28)).alloc (.cells #[.int .i64 x.kind, .string x.name, .int .i16 x.value, .int .i64 x.op, .slice oa x.args.length ca, .int .i64 x.pos] 40)) = W at hA hX hWB ⊢
      have x0 := hX.cell 0 rfl
      have x4 := hX.cell 4 rfl
      have hp' := hp.lift (hWB.mono hN)
      have ha' := ha.lift (hWB.mono hN)
      have hNW := Nat.le_trans hN hWB.size
      have hsub : ∀ y, y ∈ x.args → esz y < m := fun y hy => by
        have := esz_mem hy; omega
      have HS := Lib.hid hsub
      clear hm hsub hp ha
      go_wp2_with fail
      go_loopw [9, 43] (fun v i wr => ∃ (k : Nat) (us : List Int), k ≤ x.args.length ∧ i = .int .i64 k ∧ constVs p (x.args.take k) = some us ∧ us.length = k ∧ (∀ u ∈ us, I16 u) ∧ OwnAt i16Cells 1 37 W.heap.size wr v us ∧ Below W.heap.size W wr) (fun _ i _ => x.args.length - (intOf i).toNat)
      case atStart => exact ⟨0, [], Nat.zero_le _, rfl, rfl, rfl, by simp, OwnAt.nil _ _ _ _ _, Below.refl _ _⟩
      case round =>
        obtain ⟨k, us, hk, rfl, hcv, hul, hui, hO, hB⟩ := hrel
        rename World => wr
        obtain ⟨ov, cv, rfl, _, _⟩ := hO.slice
        rw [hul]
        have hfin := hWB.trans (hB.mono hWB.size)
        have HCV := Lib.hid hcv
        have HUI := Lib.hid hui
        clear hcv hui
        by_cases hlt : k < x.args.length
        · obtain ⟨y, b, off, vy, hy, rfl, hb, hyw, hya, c0, c1, c2, c3, c4, c5⟩ := ExprsAt.at (ha'.lift (hB.mono hNW)) hlt
          have hmem := HS.out y (List.mem_of_getElem? hy)
          have hA' := hA.later hB
          have a0 := hA'.cell 0 rfl
          have a1 := hA'.cell 1 rfl
          have a2 := hA'.cell 2 rfl
          have a3 := hA'.cell 3 rfl
          have a4 := hA'.cell 4 rfl
          have a5 := hA'.cell 5 rfl
          obtain ⟨oy, cy, rfl, _, _, _⟩ := hya.slice
          have hlA := hA'.lt
          go_upto_region 13 with fail
          have hY := Blk.new wr #[.int .i64 y.kind, .string y.name, .int .i16 y.value, .int .i64 y.op, .slice oy y.args.length cy, .int .i64 y.pos] 40
          have hZ := (Below.refl wr.heap.size wr).alloc (Nat.le_refl _) (.cells #[.int .i64 y.kind, .string y.name, .int .i16 y.value, .int .i64 y.op, .slice oy y.args.length cy, .int .i64 y.pos] 40)
          generalize wr.alloc (.cells #[.int .i64 y.kind, .string y.name, .int .i16 y.value, .int .i64 y.op, .slice oy y.args.length cy, .int .i64 y.pos] 40) = Z at hY hZ ⊢
          replace a0 := cell_later a0 hZ
          replace a1 := cell_later a1 hZ
          replace a2 := cell_later a2 hZ
          replace a3 := cell_later a3 hZ
          replace a4 := cell_later a4 hZ
          replace a5 := cell_later a5 hZ
          have y0 := hY.cell 0 rfl
          have y1 := hY.cell 1 rfl
          have y2 := hY.cell 2 rfl
          have y3 := hY.cell 3 rfl
          have y4 := hY.cell 4 rfl
          have y5 := hY.cell 5 rfl
          clear c0 c1 c2 c3 c4 c5
          have hBZ := hB.trans (hZ.mono hB.size)
          have hcall := ih y _ _ _ _ _ _ (.slice oy y.args.length cy) N Z hmem (hp'.lift (hBZ.mono hNW)) hyw (hya.lift (hZ.mono (Nat.le_trans hNW hB.size))) (Nat.le_trans hNW hBZ.size)
          have HY := Lib.hid hy
          clear hy hmem
          cases hyc : (constV p y).2
          · rw [hyc] at hcall
            have HR := Lib.hid (show constV p x = (0, false) by rw [HK.out, constVs_bad HY.out hyc])
            have HC := Lib.hid hcall
            clear hyc hcall
            go_wp2_with (go_at_call 18; refine HC.out.mono ?_; rintro e w1 ⟨⟨rfl, _⟩, hB1⟩)
            go_ret2
            exact ⟨⟨ret_vb (by rw [HR.out]) (by rw [HR.out]), by rw [HR.out]; exact i16_0⟩, hfin.trans ((hZ.trans (hB1.mono hZ.size)).mono hfin.size)⟩
          · rw [hyc] at hcall
            have HC := Lib.hid hcall
            have hnx : constVs p (x.args.take (k + 1)) = some (us ++ [(constV p y).1]) := by
              rw [take_snoc HY.out, constVs_snoc, HCV.out]
              rcases hv : constV p y with ⟨v, _ | _⟩
              · rw [hv] at hyc; simp at hyc
              · rfl
            have HNX := Lib.hid hnx
            clear hyc hcall hnx
            go_wp2_with (first
              | (go_at_call 18; refine HC.out.mono ?_; rintro e w1 ⟨⟨rfl, hi16⟩, hB1⟩; have hO1 := (hO.later hZ).later hB1; have hB1s := hB1.size; have hZs := hZ.size; have hBs := hB.size)
              | (refine append1 rfl _ _ 89 rfl 37 Tryz.underlying89 infoI16 rfl (by decide) (by decide) i16_len i16_one hO1 ((constV p y).1) rfl (by rw [hul]; rfl) rfl rfl (by omega) (by omega) ?_; intro v' w2 hO2 hg2 _ _))
            have hui2 : ∀ u ∈ us ++ [(constV p y).1], I16 u := fun u hu => by
              rcases List.mem_append.1 hu with h | h
              · exact HUI.out u h
              · rw [List.mem_singleton.1 h]; exact hi16
            have hul2 : (us ++ [(constV p y).1]).length = k + 1 := by simp [hul]
            have hB2 : Below W.heap.size W w2 := (hBZ.trans (hB1.mono hBZ.size)).trans (OwnAt.below hO1 hg2 (by omega))
            go_roundw
            case rel => first | exact ⟨k + 1, us ++ [(constV p y).1], by omega, by go_num, HNX.out, hul2, hui2, hO2, hB2⟩ | ((repeat apply Exists.intro); exact ⟨⟨k + 1, us ++ [(constV p y).1], by omega, by go_num, HNX.out, hul2, hui2, hO2, hB2⟩, rfl⟩)
            case measure => simp [intOf]; omega
        · have hk2 : k = x.args.length := by omega
          subst hk2
          have hr : constV p x = if x.kind = 5 ∧ us.length = 1 then cun x.op (us.getD 0 0) else if x.kind = 6 ∧ us.length = 2 then cbin x.op (us.getD 0 0) (us.getD 1 0) else (0, false) := by
            rw [HK.out]; have := HCV.out; rw [List.take_length] at this; rw [this]
          have hX' := hX.later hB
          have x0 := hX'.cell 0 rfl
          have x3 := hX'.cell 3 rfl
          by_cases h5 : x.kind = 5 ∧ us.length = 1
          · have t5 : (x.kind == 5) = true := beq_iff_eq.2 h5.1
            have tl : ((x.args.length : Int) == 1) = true := beq_iff_eq.2 (by omega)
            obtain ⟨bv, rfl, hbv, cv0⟩ := hO.i16At (k := 0) (by omega)
            have hi0 : I16 (us.getD 0 0) := by
              have := HUI.out (us.getD 0 0) (by rw [List.getD_eq_getElem?_getD, List.getElem?_eq_getElem (show 0 < us.length by omega)]; simp)
              exact this
            have hx1 : 0 < x.args.length := by omega
            have HR := Lib.hid (hr.trans (if_pos h5))
            clear hr h5 hul
            go_wp2_with fail
            go_quiet (exact Calls.quiet_of_same (wUnary_any _ _ _))
            go_wp2_with fail
            go_ret2
            exact ⟨⟨ret_vb (by rw [HR.out]; rfl) (by rw [HR.out]; rfl), by rw [HR.out]; exact cun_i16 _ _⟩, below_drewN hfin _⟩
          · by_cases h6 : x.kind = 6 ∧ us.length = 2
            · have t5 : (x.kind == 5) = false := beq_eq_false_iff_ne.2 (by omega)
              have t6 : (x.kind == 6) = true := beq_iff_eq.2 h6.1
              have tl : ((x.args.length : Int) == 2) = true := beq_iff_eq.2 (by omega)
              obtain ⟨bv, rfl, hbv, cv0⟩ := hO.i16At (k := 0) (by omega)
              obtain ⟨bv', e', hbv', cv1⟩ := hO.i16At (k := 1) (by omega)
              cases e'
              have hi0 : I16 (us.getD 0 0) := HUI.out (us.getD 0 0) (by rw [List.getD_eq_getElem?_getD, List.getElem?_eq_getElem (show 0 < us.length by omega)]; simp)
              have hi1 : I16 (us.getD 1 0) := HUI.out (us.getD 1 0) (by rw [List.getD_eq_getElem?_getD, List.getElem?_eq_getElem (show 1 < us.length by omega)]; simp)
              have hx1 : 0 < x.args.length := by omega
              have hx2 : 1 < x.args.length := by omega
              have HR := Lib.hid ((hr.trans (if_neg h5)).trans (if_pos h6))
              clear hr h5 h6 hul
              go_wp2_with fail
              go_quiet (exact Calls.quiet_of_same (cbinary_any _ _ _ _ hi0 hi1))
              go_wp2_with fail
              go_ret2
              exact ⟨⟨ret_vb (by rw [HR.out]; simp only [List.getD_eq_getElem?_getD]) (by rw [HR.out]; simp only [List.getD_eq_getElem?_getD]), by rw [HR.out]; exact cbin_i16 hi0⟩, below_drewN hfin _⟩
            · have HR := Lib.hid ((hr.trans (if_neg h5)).trans (if_neg h6))
              have h5' : (x.kind == 5) = false ∨ ((x.kind == 5) = true ∧ (x.kind == 6) = false ∧ ((x.args.length : Int) == 1) = false) := by
                by_cases q : x.kind = 5
                · exact .inr ⟨beq_iff_eq.2 q, beq_eq_false_iff_ne.2 (by omega), beq_eq_false_iff_ne.2 (by omega)⟩
                · exact .inl (beq_eq_false_iff_ne.2 q)
              have h6' : (x.kind == 6) = false ∨ ((x.kind == 6) = true ∧ ((x.args.length : Int) == 2) = false) := by
                by_cases q : x.kind = 6
                · exact .inr ⟨beq_iff_eq.2 q, beq_eq_false_iff_ne.2 (by omega)⟩
                · exact .inl (beq_eq_false_iff_ne.2 q)
              clear hr h5 h6 hul
              rcases h5' with t5 | ⟨t5, t6, tl⟩
              · rcases h6' with t6 | ⟨t6, tl⟩
                all_goals go_wp2_with fail
                all_goals go_ret2
                all_goals exact ⟨⟨ret_vb (by rw [HR.out]) (by rw [HR.out]), by rw [HR.out]; exact i16_0⟩, hfin⟩
              · clear h6'
                go_wp2_with fail
                go_ret2
                exact ⟨⟨ret_vb (by rw [HR.out]) (by rw [HR.out]), by rw [HR.out]; exact i16_0⟩, hfin⟩
end Go.Proofs.YtkfdnlfkomhmfaaGreatDoor
