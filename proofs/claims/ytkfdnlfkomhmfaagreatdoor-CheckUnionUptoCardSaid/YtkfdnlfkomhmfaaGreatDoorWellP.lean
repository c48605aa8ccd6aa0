/- Well-formed programs: the program's WellFormed. -/
import Derived.Test.YtkfdnlfkomhmfaaGreatDoorWell
import Derived.Test.YtkfdnlfkomhmfaaGreatDoorConcat
import Derived.Test.YtkfdnlfkomhmfaaGreatDoorFunc
namespace Go.Proofs.YtkfdnlfkomhmfaaGreatDoor
open Go.RowKit
set_option linter.unusedVariables false
set_option linter.unusedSimpArgs false
theorem all_any {α : Type} (f : α → Bool) (l : List α) : (!(l.any fun x => !f x)) = l.all f := by
  induction l with
  | nil => rfl
  | cons x l ih => simp [← ih]
set_option maxRecDepth 100000 in
set_option maxHeartbeats 8000000 in
theorem WellFormed_any (p : Prog) (v0 v1 v2 v3 v4 v5 : Value) (N : Nat) (w : World) (hp : ProgAt N w v0 v1 v2 v3 v4 v5 p) (hN : N ≤ w.heap.size) (hTab : Tabs w) :
    Calls Tryz.prog 32 #[.agg #[v0, v1, v2, v3, v4, v5]] w fun e w' => e = .returned (.bool (progOk p)) ∧ Below w.heap.size w w' := by
  obtain ⟨o0, q0, rfl, _, _, n0⟩ := SliceAt.slice hp.consts
  obtain ⟨o1, q1, rfl, _, _, n1⟩ := SliceAt.slice hp.globals
  obtain ⟨o2, q2, rfl, _, _, n2⟩ := SliceAt.slice hp.sensors
  obtain ⟨o3, q3, rfl, _, _, n3⟩ := SliceAt.slice hp.outputs
  obtain ⟨o4, q4, rfl, _, _, n4⟩ := SliceAt.slice hp.channels
  obtain ⟨o5, q5, rfl, _, _, n5⟩ := hp.tasks.slice
  have HT0 := Lib.hid hTab
  clear hTab
  go_enter Tryz.func32, Tryz.ntmps32
  go_upto_region 1 with fail
  have hBW := (Below.refl w.heap.size w).alloc (Nat.le_refl _) (.cells #[.slice o0 p.consts.length q0, .slice o1 p.globals.length q1, .slice o2 p.sensors.length q2, .slice o3 p.outputs.length q3, .slice o4 p.channels.length q4, .slice o5 p.tasks.length q5] 28)
  have d0 : (w.alloc (.cells #[.slice o0 p.consts.length q0, .slice o1 p.globals.length q1, .slice o2 p.sensors.length q2, .slice o3 p.outputs.length q3, .slice o4 p.channels.length q4, .slice o5 p.tasks.length q5] 28)).cell? ⟨w.heap.size, 0, none⟩ = some (.slice o0 p.consts.length q0) := cell_first rfl
  have d1 : (w.alloc (.cells #[.slice o0 p.consts.length q0, .slice o1 p.globals.length q1, .slice o2 p.sensors.length q2, .slice o3 p.outputs.length q3, .slice o4 p.channels.length q4, .slice o5 p.tasks.length q5] 28)).cell? ⟨w.heap.size, 1, none⟩ = some (.slice o1 p.globals.length q1) := cell_first rfl
  have d2 : (w.alloc (.cells #[.slice o0 p.consts.length q0, .slice o1 p.globals.length q1, .slice o2 p.sensors.length q2, .slice o3 p.outputs.length q3, .slice o4 p.channels.length q4, .slice o5 p.tasks.length q5] 28)).cell? ⟨w.heap.size, 2, none⟩ = some (.slice o2 p.sensors.length q2) := cell_first rfl
  have d3 : (w.alloc (.cells #[.slice o0 p.consts.length q0, .slice o1 p.globals.length q1, .slice o2 p.sensors.length q2, .slice o3 p.outputs.length q3, .slice o4 p.channels.length q4, .slice o5 p.tasks.length q5] 28)).cell? ⟨w.heap.size, 3, none⟩ = some (.slice o3 p.outputs.length q3) := cell_first rfl
  have d4 : (w.alloc (.cells #[.slice o0 p.consts.length q0, .slice o1 p.globals.length q1, .slice o2 p.sensors.length q2, .slice o3 p.outputs.length q3, .slice o4 p.channels.length q4, .slice o5 p.tasks.length q5] 28)).cell? ⟨w.heap.size, 4, none⟩ = some (.slice o4 p.channels.length q4) := cell_first rfl
  have d5 : (w.alloc (.cells #[.slice o0 p.consts.length q0, .slice o1 p.globals.length q1, .slice o2 p.sensors.length q2, .slice o3 p.outputs.length q3, .slice o4 p.channels.length q4, .slice o5 p.tasks.length q5] 28)).cell? ⟨w.heap.size, 5, none⟩ = some (.slice o5 p.tasks.length q5) := cell_first rfl
  generalize w.alloc (.cells #[.slice o0 p.consts.length q0, .slice o1 p.globals.length q1, .slice o2 p.sensors.length q2, .slice o3 p.outputs.length q3, .slice o4 p.channels.length q4, .slice o5 p.tasks.length q5] 28) = W at hBW d0 d1 d2 d3 d4 d5 ⊢
  have hp' := hp.lift (hBW.mono hN)
  have hNW : N ≤ W.heap.size := Nat.le_trans hN hBW.size
  clear hp
  have HTW := Lib.hid (HT0.out.later hBW)
  go_wp2_with fail
  go_loopw [14] (fun i wr => ∃ k : Nat, k ≤ p.consts.length ∧ i = .int .i64 k ∧ (p.consts.take k).all constOk = true ∧ Below W.heap.size W wr) (fun i _ => p.consts.length - (intOf i).toNat)
  case atStart => exact ⟨0, Nat.zero_le _, rfl, rfl, Below.refl _ _⟩
  case round =>
    obtain ⟨k, hk, rfl, hok, hB⟩ := hrel
    rename World => wr
    have HOK := Lib.hid hok
    clear hok
    have hBs := hB.size
    have HTB := Lib.hid (HTW.out.later hB)
    by_cases hlt : k < p.consts.length
    · obtain ⟨x, b, off, hx, rfl, hb, c0, c1, c2⟩ := ConstsAt.at (SliceAt.lift hp'.consts (hB.mono hNW)) hlt
      have HX := Lib.hid hx
      have hst := Lib.hid (ProgAt.cname hp' hx)
      clear hx
      go_upto_region 4 with fail
      have hZ := (Below.refl wr.heap.size wr).alloc (Nat.le_refl _) (.cells #[.string x.name, .int .i16 x.value, .int .i64 x.pos] 67)
      have z0 : (wr.alloc (.cells #[.string x.name, .int .i16 x.value, .int .i64 x.pos] 67)).cell? ⟨wr.heap.size, 0, none⟩ = some (.string x.name) := cell_first rfl
      have z1 : (wr.alloc (.cells #[.string x.name, .int .i16 x.value, .int .i64 x.pos] 67)).cell? ⟨wr.heap.size, 1, none⟩ = some (.int .i16 x.value) := cell_first rfl
      have z2 : (wr.alloc (.cells #[.string x.name, .int .i16 x.value, .int .i64 x.pos] 67)).cell? ⟨wr.heap.size, 2, none⟩ = some (.int .i64 x.pos) := cell_first rfl
      generalize wr.alloc (.cells #[.string x.name, .int .i16 x.value, .int .i64 x.pos] 67) = Z at hZ z0 z1 z2 ⊢
      cases hid : ident x.name
      case false =>
        have HF := Lib.hid (show progOk p = false from prog_c (all_bad (List.mem_of_getElem? HX.out) (by simp [constOk, hid])))
        go_wp2_with (first | (go_at_call 58; refine (identifier_any _ _ hst.out (HTB.out.later (by (repeat (first | exact Below.refl _ _ | assumption | apply Below.push | (refine Below.step (by assumption) ?_))))).sp).mono ?_; rintro e w1 ⟨rfl, hB1⟩; replace z0 := cell_later z0 hB1; replace z1 := cell_later z1 hB1; replace z2 := cell_later z2 hB1) | (go_at_call 60; refine (number_any _ _).mono ?_; rintro e w2 ⟨rfl, rfl⟩) | (go_at_call 59; refine (signed_any _ _).mono ?_; rintro e w2 ⟨rfl, rfl⟩))
        go_ret
        exact ⟨ret_bool HF.out.symm, hBW.trans (Below.mono (by (repeat (first | exact Below.refl _ _ | assumption | apply Below.push | (refine Below.step (by assumption) ?_)))) hBW.size)⟩
      case true =>
      cases hv : decide (-32767 ≤ x.value)
      case false =>
        have HF := Lib.hid (show progOk p = false from prog_c (all_bad (List.mem_of_getElem? HX.out) (by simp only [constOk, hv, Bool.and_false])))
        go_wp2_with (first | (go_at_call 58; refine (identifier_any _ _ hst.out (HTB.out.later (by (repeat (first | exact Below.refl _ _ | assumption | apply Below.push | (refine Below.step (by assumption) ?_))))).sp).mono ?_; rintro e w1 ⟨rfl, hB1⟩; replace z0 := cell_later z0 hB1; replace z1 := cell_later z1 hB1; replace z2 := cell_later z2 hB1) | (go_at_call 60; refine (number_any _ _).mono ?_; rintro e w2 ⟨rfl, rfl⟩) | (go_at_call 59; refine (signed_any _ _).mono ?_; rintro e w2 ⟨rfl, rfl⟩))
        go_ret
        exact ⟨ret_bool HF.out.symm, hBW.trans (Below.mono (by (repeat (first | exact Below.refl _ _ | assumption | apply Below.push | (refine Below.step (by assumption) ?_)))) hBW.size)⟩
      case true =>
        have HNX := Lib.hid (show (p.consts.take (k + 1)).all _ = true by rw [all_snoc HX.out, HOK.out, show constOk x = true by simp only [constOk, hid, hv]; rfl]; rfl)
        go_wp2_with (first | (go_at_call 58; refine (identifier_any _ _ hst.out (HTB.out.later (by (repeat (first | exact Below.refl _ _ | assumption | apply Below.push | (refine Below.step (by assumption) ?_))))).sp).mono ?_; rintro e w1 ⟨rfl, hB1⟩; replace z0 := cell_later z0 hB1; replace z1 := cell_later z1 hB1; replace z2 := cell_later z2 hB1) | (go_at_call 60; refine (number_any _ _).mono ?_; rintro e w2 ⟨rfl, rfl⟩) | (go_at_call 59; refine (signed_any _ _).mono ?_; rintro e w2 ⟨rfl, rfl⟩))
        go_roundw
        case rel =>
          first | exact ⟨k + 1, by omega, by go_num, HNX.out, by (repeat (first | exact Below.refl _ _ | assumption | apply Below.push | (refine Below.step (by assumption) ?_)))⟩ | ((repeat apply Exists.intro); exact ⟨⟨k + 1, by omega, by go_num, HNX.out, by (repeat (first | exact Below.refl _ _ | assumption | apply Below.push | (refine Below.step (by assumption) ?_)))⟩, rfl⟩)
        case measure => simp [intOf]; omega
    · have hk2 : k = p.consts.length := by omega
      subst hk2
      have H1 := Lib.hid (all_full HOK.out)
      have g1 := cell_later d1 hB
      clear HOK hlt hk
      go_wp2_with fail
      go_loopw [32] (fun i wr => ∃ k : Nat, k ≤ p.globals.length ∧ i = .int .i64 k ∧ (p.globals.take k).all globOk = true ∧ Below W.heap.size W wr) (fun i _ => p.globals.length - (intOf i).toNat)
      case atStart => exact ⟨0, Nat.zero_le _, rfl, rfl, hB⟩
      clear hB hBs
      case round =>
        obtain ⟨k, hk, rfl, hok, hB⟩ := hrel
        rename World => wr
        have HOK := Lib.hid hok
        clear hok
        have hBs := hB.size
        have HTB := Lib.hid (HTW.out.later hB)
        by_cases hlt : k < p.globals.length
        · obtain ⟨x, b, off, hx, rfl, hb, c0, c1, c2, c3⟩ := GlobsAt.at (SliceAt.lift hp'.globals (hB.mono hNW)) hlt
          have HX := Lib.hid hx
          have hst := Lib.hid (ProgAt.gname hp' hx)
          clear hx
          go_upto_region 10 with fail
          have hZ := (Below.refl wr.heap.size wr).alloc (Nat.le_refl _) (.cells #[.string x.name, .int .i64 x.len, .int .i16 x.init, .int .i64 x.pos] 69)
          have z0 : (wr.alloc (.cells #[.string x.name, .int .i64 x.len, .int .i16 x.init, .int .i64 x.pos] 69)).cell? ⟨wr.heap.size, 0, none⟩ = some (.string x.name) := cell_first rfl
          have z1 : (wr.alloc (.cells #[.string x.name, .int .i64 x.len, .int .i16 x.init, .int .i64 x.pos] 69)).cell? ⟨wr.heap.size, 1, none⟩ = some (.int .i64 x.len) := cell_first rfl
          have z2 : (wr.alloc (.cells #[.string x.name, .int .i64 x.len, .int .i16 x.init, .int .i64 x.pos] 69)).cell? ⟨wr.heap.size, 2, none⟩ = some (.int .i16 x.init) := cell_first rfl
          have z3 : (wr.alloc (.cells #[.string x.name, .int .i64 x.len, .int .i16 x.init, .int .i64 x.pos] 69)).cell? ⟨wr.heap.size, 3, none⟩ = some (.int .i64 x.pos) := cell_first rfl
          generalize wr.alloc (.cells #[.string x.name, .int .i64 x.len, .int .i16 x.init, .int .i64 x.pos] 69) = Z at hZ z0 z1 z2 z3 ⊢
          cases hid : ident x.name
          case false =>
            have HF := Lib.hid (show progOk p = false from prog_g (all_bad (List.mem_of_getElem? HX.out) (by simp [globOk, hid])))
            go_wp2_with (first | (go_at_call 58; refine (identifier_any _ _ hst.out (HTB.out.later (by (repeat (first | exact Below.refl _ _ | assumption | apply Below.push | (refine Below.step (by assumption) ?_))))).sp).mono ?_; rintro e w1 ⟨rfl, hB1⟩; replace z0 := cell_later z0 hB1; replace z1 := cell_later z1 hB1; replace z2 := cell_later z2 hB1; replace z3 := cell_later z3 hB1) | (go_at_call 60; refine (number_any _ _).mono ?_; rintro e w2 ⟨rfl, rfl⟩) | (go_at_call 59; refine (signed_any _ _).mono ?_; rintro e w2 ⟨rfl, rfl⟩))
            go_ret
            exact ⟨ret_bool HF.out.symm, hBW.trans (Below.mono (by (repeat (first | exact Below.refl _ _ | assumption | apply Below.push | (refine Below.step (by assumption) ?_)))) hBW.size)⟩
          case true =>
          cases hn : num x.len
          case false =>
            have HF := Lib.hid (show progOk p = false from prog_g (all_bad (List.mem_of_getElem? HX.out) (by simp [globOk, hn])))
            go_wp2_with (first | (go_at_call 58; refine (identifier_any _ _ hst.out (HTB.out.later (by (repeat (first | exact Below.refl _ _ | assumption | apply Below.push | (refine Below.step (by assumption) ?_))))).sp).mono ?_; rintro e w1 ⟨rfl, hB1⟩; replace z0 := cell_later z0 hB1; replace z1 := cell_later z1 hB1; replace z2 := cell_later z2 hB1; replace z3 := cell_later z3 hB1) | (go_at_call 60; refine (number_any _ _).mono ?_; rintro e w2 ⟨rfl, rfl⟩) | (go_at_call 59; refine (signed_any _ _).mono ?_; rintro e w2 ⟨rfl, rfl⟩))
            go_ret
            exact ⟨ret_bool HF.out.symm, hBW.trans (Below.mono (by (repeat (first | exact Below.refl _ _ | assumption | apply Below.push | (refine Below.step (by assumption) ?_)))) hBW.size)⟩
          case true =>
          cases hv : decide (-32767 ≤ x.init)
          case false =>
            have HF := Lib.hid (show progOk p = false from prog_g (all_bad (List.mem_of_getElem? HX.out) (by simp only [globOk, hv, Bool.false_and, Bool.and_false])))
            go_wp2_with (first | (go_at_call 58; refine (identifier_any _ _ hst.out (HTB.out.later (by (repeat (first | exact Below.refl _ _ | assumption | apply Below.push | (refine Below.step (by assumption) ?_))))).sp).mono ?_; rintro e w1 ⟨rfl, hB1⟩; replace z0 := cell_later z0 hB1; replace z1 := cell_later z1 hB1; replace z2 := cell_later z2 hB1; replace z3 := cell_later z3 hB1) | (go_at_call 60; refine (number_any _ _).mono ?_; rintro e w2 ⟨rfl, rfl⟩) | (go_at_call 59; refine (signed_any _ _).mono ?_; rintro e w2 ⟨rfl, rfl⟩))
            go_ret
            exact ⟨ret_bool HF.out.symm, hBW.trans (Below.mono (by (repeat (first | exact Below.refl _ _ | assumption | apply Below.push | (refine Below.step (by assumption) ?_)))) hBW.size)⟩
          case true =>
          have hv2 := Lib.hid hv
          by_cases hl : 0 < x.len
          case neg =>
            have HNX := Lib.hid (show (p.globals.take (k + 1)).all _ = true by rw [all_snoc HX.out, HOK.out, show globOk x = true by simp only [globOk, hid, hn, hv2.out, decide_eq_false hl]; rfl]; rfl)
            go_wp2_with (first | (go_at_call 58; refine (identifier_any _ _ hst.out (HTB.out.later (by (repeat (first | exact Below.refl _ _ | assumption | apply Below.push | (refine Below.step (by assumption) ?_))))).sp).mono ?_; rintro e w1 ⟨rfl, hB1⟩; replace z0 := cell_later z0 hB1; replace z1 := cell_later z1 hB1; replace z2 := cell_later z2 hB1; replace z3 := cell_later z3 hB1) | (go_at_call 60; refine (number_any _ _).mono ?_; rintro e w2 ⟨rfl, rfl⟩) | (go_at_call 59; refine (signed_any _ _).mono ?_; rintro e w2 ⟨rfl, rfl⟩))
            go_roundw
            case rel =>
              first | exact ⟨k + 1, by omega, by go_num, HNX.out, by (repeat (first | exact Below.refl _ _ | assumption | apply Below.push | (refine Below.step (by assumption) ?_)))⟩ | ((repeat apply Exists.intro); exact ⟨⟨k + 1, by omega, by go_num, HNX.out, by (repeat (first | exact Below.refl _ _ | assumption | apply Below.push | (refine Below.step (by assumption) ?_)))⟩, rfl⟩)
            case measure => simp [intOf]; omega
          case pos =>
          by_cases hi : x.init = 0
          case neg =>
            have hib : (x.init != 0) = true := bne_iff_ne.2 hi
            have HF := Lib.hid (show progOk p = false from prog_g (all_bad (List.mem_of_getElem? HX.out) (by simp [globOk, hl, hi])))
            clear hi
            go_wp2_with (first | (go_at_call 58; refine (identifier_any _ _ hst.out (HTB.out.later (by (repeat (first | exact Below.refl _ _ | assumption | apply Below.push | (refine Below.step (by assumption) ?_))))).sp).mono ?_; rintro e w1 ⟨rfl, hB1⟩; replace z0 := cell_later z0 hB1; replace z1 := cell_later z1 hB1; replace z2 := cell_later z2 hB1; replace z3 := cell_later z3 hB1) | (go_at_call 60; refine (number_any _ _).mono ?_; rintro e w2 ⟨rfl, rfl⟩) | (go_at_call 59; refine (signed_any _ _).mono ?_; rintro e w2 ⟨rfl, rfl⟩))
            go_ret
            exact ⟨ret_bool HF.out.symm, hBW.trans (Below.mono (by (repeat (first | exact Below.refl _ _ | assumption | apply Below.push | (refine Below.step (by assumption) ?_)))) hBW.size)⟩
          case pos =>
            have hib : (x.init != 0) = false := bne_eq_false_iff_eq.2 hi
            have HNX := Lib.hid (show (p.globals.take (k + 1)).all _ = true by rw [all_snoc HX.out, HOK.out, show globOk x = true by simp only [globOk, hid, hn, hv2.out]; simp [hi]]; rfl)
            clear hi
            go_wp2_with (first | (go_at_call 58; refine (identifier_any _ _ hst.out (HTB.out.later (by (repeat (first | exact Below.refl _ _ | assumption | apply Below.push | (refine Below.step (by assumption) ?_))))).sp).mono ?_; rintro e w1 ⟨rfl, hB1⟩; replace z0 := cell_later z0 hB1; replace z1 := cell_later z1 hB1; replace z2 := cell_later z2 hB1; replace z3 := cell_later z3 hB1) | (go_at_call 60; refine (number_any _ _).mono ?_; rintro e w2 ⟨rfl, rfl⟩) | (go_at_call 59; refine (signed_any _ _).mono ?_; rintro e w2 ⟨rfl, rfl⟩))
            go_roundw
            case rel =>
              first | exact ⟨k + 1, by omega, by go_num, HNX.out, by (repeat (first | exact Below.refl _ _ | assumption | apply Below.push | (refine Below.step (by assumption) ?_)))⟩ | ((repeat apply Exists.intro); exact ⟨⟨k + 1, by omega, by go_num, HNX.out, by (repeat (first | exact Below.refl _ _ | assumption | apply Below.push | (refine Below.step (by assumption) ?_)))⟩, rfl⟩)
            case measure => simp [intOf]; omega
        · have hk2 : k = p.globals.length := by omega
          subst hk2
          have H2 := Lib.hid (all_full HOK.out)
          have g2 := cell_later d2 hB
          have g3 := cell_later d3 hB
          clear HOK hlt hk g1
          have HXS := fun Z (h : Below wr.heap.size wr Z) => (show StrsAt N Z (.slice o2 p.sensors.length q2) p.sensors from SliceAt.lift hp'.sensors ((hB.mono hNW).trans (h.mono (Nat.le_trans hNW hBs))))
          have HXO := fun Z (h : Below wr.heap.size wr Z) => (show StrsAt N Z (.slice o3 p.outputs.length q3) p.outputs from SliceAt.lift hp'.outputs ((hB.mono hNW).trans (h.mono (Nat.le_trans hNW hBs))))
          have HXS2 := Lib.hid HXS
          have HXO2 := Lib.hid HXO
          clear HXS HXO
          go_wp2_with (go_at_call 61; refine (Concat_any N _ _ _ _ _ _ (HXS2.out _ ((Below.refl _ _).alloc (Nat.le_refl _) _)) (HXO2.out _ ((Below.refl _ _).alloc (Nat.le_refl _) _)) (by simp; omega) (cell_first rfl) (cell_first rfl)).mono ?_; rintro e wc ⟨v, rfl, hO, hBc0⟩; obtain ⟨oa, cap, rfl, hc1, hc2⟩ := hO.slice; have hBc := Below.after hBc0; clear hBc0; generalize hLL : p.sensors ++ p.outputs = L at hO hc1 hc2 ⊢; have HLL := Lib.hid hLL; clear hLL)
          have hBcW : Below W.heap.size W wc := hB.trans (hBc.mono hBs)
          have hll := Lib.hid (show L.length ≤ 2097152 by rw [← HLL.out]; simp; omega)
          have HS := Lib.hid (fun x (h : x ∈ L) => ProgAt.sname hp' (show x ∈ p.sensors ++ p.outputs by rw [HLL.out]; exact h))
          have HPS := Lib.hid (show L.all ident = false → progOk p = false by rw [← HLL.out]; exact prog_s)
          have hPS2 := Lib.hid (show L.all ident = true → p.channels.all chanOk = true → progOk p = p.tasks.all taskOk by rw [← HLL.out]; exact fun h3 h4 => prog_ok (p := p) H1.out H2.out h3 h4)
          clear H1 H2 g2 g3 HLL HXS2 HXO2
          have HTC := Lib.hid (HTW.out.later hBcW)
          go_loopw [70] (fun i wr => ∃ k : Nat, k ≤ L.length ∧ i = .int .i64 k ∧ (L.take k).all ident = true ∧ Below wc.heap.size wc wr) (fun i _ => L.length - (intOf i).toNat)
          case atStart => exact ⟨0, Nat.zero_le _, rfl, rfl, Below.refl _ _⟩
          have hBW2 : Below w.heap.size w wc := hBW.trans (hBcW.mono hBW.size)
          clear hB hBs
          case round =>
            obtain ⟨k, hk, rfl, hok, hB⟩ := hrel
            rename World => wr
            have HOK := Lib.hid hok
            clear hok
            have hBs := hB.size
            have HTB := Lib.hid (HTC.out.later hB)
            by_cases hlt : k < L.length
            · have hll' := hll.out
              obtain ⟨x, b, hx, rfl, hb, c0⟩ := OwnAt.strAt (hO.later hB) hlt
              have HX := Lib.hid hx
              have hst := Lib.hid (HS.out x (List.mem_of_getElem? hx))
              clear hx
              cases hid : ident x
              case false =>
                have HF := Lib.hid (show progOk p = false from HPS.out (all_bad (List.mem_of_getElem? HX.out) hid))
                go_wp2_with (first | (go_at_call 58; refine (identifier_any _ _ hst.out (HTB.out.later (by (repeat (first | exact Below.refl _ _ | assumption | apply Below.push | (refine Below.step (by assumption) ?_))))).sp).mono ?_; rintro e w1 ⟨rfl, hB1⟩; ) | (go_at_call 60; refine (number_any _ _).mono ?_; rintro e w2 ⟨rfl, rfl⟩) | (go_at_call 59; refine (signed_any _ _).mono ?_; rintro e w2 ⟨rfl, rfl⟩))
                go_ret
                exact ⟨ret_bool HF.out.symm, hBW2.trans (Below.mono (by (repeat (first | exact Below.refl _ _ | assumption | apply Below.push | (refine Below.step (by assumption) ?_)))) hBW2.size)⟩
              case true =>
                have HNX := Lib.hid (show (L.take (k + 1)).all _ = true by rw [all_snoc HX.out, HOK.out, show ident x = true from hid]; rfl)
                go_wp2_with (first | (go_at_call 58; refine (identifier_any _ _ hst.out (HTB.out.later (by (repeat (first | exact Below.refl _ _ | assumption | apply Below.push | (refine Below.step (by assumption) ?_))))).sp).mono ?_; rintro e w1 ⟨rfl, hB1⟩; ) | (go_at_call 60; refine (number_any _ _).mono ?_; rintro e w2 ⟨rfl, rfl⟩) | (go_at_call 59; refine (signed_any _ _).mono ?_; rintro e w2 ⟨rfl, rfl⟩))
                go_roundw
                case rel =>
                  first | exact ⟨k + 1, by omega, by go_num, HNX.out, by (repeat (first | exact Below.refl _ _ | assumption | apply Below.push | (refine Below.step (by assumption) ?_)))⟩ | ((repeat apply Exists.intro); exact ⟨⟨k + 1, by omega, by go_num, HNX.out, by (repeat (first | exact Below.refl _ _ | assumption | apply Below.push | (refine Below.step (by assumption) ?_)))⟩, rfl⟩)
                case measure => simp [intOf]; omega
            · have hk2 : k = L.length := by omega
              subst hk2
              have H3 := Lib.hid (all_full HOK.out)
              have hB4 : Below W.heap.size W wr := hBcW.trans (hB.mono hBcW.size)
              have hB4s := hB4.size
              have g4 := cell_later d4 hB4
              clear HOK hlt hk hBW2 hB hBs hBc HPS HS
              go_wp2_with fail
              go_loopw [81] (fun i wr => ∃ k : Nat, k ≤ p.channels.length ∧ i = .int .i64 k ∧ (p.channels.take k).all chanOk = true ∧ Below W.heap.size W wr) (fun i _ => p.channels.length - (intOf i).toNat)
              case atStart => exact ⟨0, Nat.zero_le _, rfl, rfl, hB4⟩
              clear hB4 hB4s
              case round =>
                obtain ⟨k, hk, rfl, hok, hB⟩ := hrel
                rename World => wr
                have HOK := Lib.hid hok
                clear hok
                have hBs := hB.size
                have HTB := Lib.hid (HTW.out.later hB)
                by_cases hlt : k < p.channels.length
                · obtain ⟨x, b, off, hx, rfl, hb, c0, c1, c2⟩ := ChansAt.at (SliceAt.lift hp'.channels (hB.mono hNW)) hlt
                  have HX := Lib.hid hx
                  have hst := Lib.hid (ProgAt.hname hp' hx)
                  clear hx
                  go_upto_region 22 with fail
                  have hZ := (Below.refl wr.heap.size wr).alloc (Nat.le_refl _) (.cells #[.string x.name, .int .i64 x.cap, .int .i64 x.pos] 97)
                  have z0 : (wr.alloc (.cells #[.string x.name, .int .i64 x.cap, .int .i64 x.pos] 97)).cell? ⟨wr.heap.size, 0, none⟩ = some (.string x.name) := cell_first rfl
                  have z1 : (wr.alloc (.cells #[.string x.name, .int .i64 x.cap, .int .i64 x.pos] 97)).cell? ⟨wr.heap.size, 1, none⟩ = some (.int .i64 x.cap) := cell_first rfl
                  have z2 : (wr.alloc (.cells #[.string x.name, .int .i64 x.cap, .int .i64 x.pos] 97)).cell? ⟨wr.heap.size, 2, none⟩ = some (.int .i64 x.pos) := cell_first rfl
                  generalize wr.alloc (.cells #[.string x.name, .int .i64 x.cap, .int .i64 x.pos] 97) = Z at hZ z0 z1 z2 ⊢
                  cases hid : ident x.name
                  case false =>
                    have HF := Lib.hid (show progOk p = false from prog_h (all_bad (List.mem_of_getElem? HX.out) (by simp [chanOk, hid])))
                    go_wp2_with (first | (go_at_call 58; refine (identifier_any _ _ hst.out (HTB.out.later (by (repeat (first | exact Below.refl _ _ | assumption | apply Below.push | (refine Below.step (by assumption) ?_))))).sp).mono ?_; rintro e w1 ⟨rfl, hB1⟩; replace z0 := cell_later z0 hB1; replace z1 := cell_later z1 hB1; replace z2 := cell_later z2 hB1) | (go_at_call 60; refine (number_any _ _).mono ?_; rintro e w2 ⟨rfl, rfl⟩) | (go_at_call 59; refine (signed_any _ _).mono ?_; rintro e w2 ⟨rfl, rfl⟩))
                    go_ret
                    exact ⟨ret_bool HF.out.symm, hBW.trans (Below.mono (by (repeat (first | exact Below.refl _ _ | assumption | apply Below.push | (refine Below.step (by assumption) ?_)))) hBW.size)⟩
                  case true =>
                  cases hn : num x.cap
                  case false =>
                    have HF := Lib.hid (show progOk p = false from prog_h (all_bad (List.mem_of_getElem? HX.out) (by simp [chanOk, hn])))
                    go_wp2_with (first | (go_at_call 58; refine (identifier_any _ _ hst.out (HTB.out.later (by (repeat (first | exact Below.refl _ _ | assumption | apply Below.push | (refine Below.step (by assumption) ?_))))).sp).mono ?_; rintro e w1 ⟨rfl, hB1⟩; replace z0 := cell_later z0 hB1; replace z1 := cell_later z1 hB1; replace z2 := cell_later z2 hB1) | (go_at_call 60; refine (number_any _ _).mono ?_; rintro e w2 ⟨rfl, rfl⟩) | (go_at_call 59; refine (signed_any _ _).mono ?_; rintro e w2 ⟨rfl, rfl⟩))
                    go_ret
                    exact ⟨ret_bool HF.out.symm, hBW.trans (Below.mono (by (repeat (first | exact Below.refl _ _ | assumption | apply Below.push | (refine Below.step (by assumption) ?_)))) hBW.size)⟩
                  case true =>
                    have HNX := Lib.hid (show (p.channels.take (k + 1)).all _ = true by rw [all_snoc HX.out, HOK.out, show chanOk x = true by simp only [chanOk, hid, hn]; rfl]; rfl)
                    go_wp2_with (first | (go_at_call 58; refine (identifier_any _ _ hst.out (HTB.out.later (by (repeat (first | exact Below.refl _ _ | assumption | apply Below.push | (refine Below.step (by assumption) ?_))))).sp).mono ?_; rintro e w1 ⟨rfl, hB1⟩; replace z0 := cell_later z0 hB1; replace z1 := cell_later z1 hB1; replace z2 := cell_later z2 hB1) | (go_at_call 60; refine (number_any _ _).mono ?_; rintro e w2 ⟨rfl, rfl⟩) | (go_at_call 59; refine (signed_any _ _).mono ?_; rintro e w2 ⟨rfl, rfl⟩))
                    go_roundw
                    case rel =>
                      first | exact ⟨k + 1, by omega, by go_num, HNX.out, by (repeat (first | exact Below.refl _ _ | assumption | apply Below.push | (refine Below.step (by assumption) ?_)))⟩ | ((repeat apply Exists.intro); exact ⟨⟨k + 1, by omega, by go_num, HNX.out, by (repeat (first | exact Below.refl _ _ | assumption | apply Below.push | (refine Below.step (by assumption) ?_)))⟩, rfl⟩)
                    case measure => simp [intOf]; omega
                · have hk2 : k = p.channels.length := by omega
                  subst hk2
                  have H4 := Lib.hid (hPS2.out H3.out (all_full HOK.out))
                  have g5 := cell_later d5 hB
                  clear HOK hlt hk g4 H3 hPS2
                  have hBs5 := hB.size
                  have HTB := Lib.hid (HTW.out.later hB)
                  have eg : ∀ args w, (callFunc 63 args).run Tryz.prog w = .ok (.enter 63 args) w := enters_of Tryz.func63 (by kernel_rfl) rfl
                  have hP : PredT 63 #[] N wr p.tasks (fun t => !taskOk t) := by
                    intro y vy W' hy hywf hBW' hyA
                    obtain ⟨ob, cb, rfl, _, _, _⟩ := hyA.slice
                    have H1 := Lib.hid (HTB.out.later hBW')
                    have hs1 := hBW'.size
                    clear g5
                    go_enter Tryz.func63, Tryz.ntmps63
                    go_wp2_with (go_at_call 64; refine (wellFormedTask_any y _ N _ hywf (hyA.kept (fun b hb => Below.heap_alloc _ _ _ (by omega))) (by simp; omega) (H1.out.later (by go_grown))).mono ?_; rintro e w1 ⟨rfl, hB1⟩)
                    go_ret
                    exact ⟨rfl, Below.after hB1⟩
                  have HC := Lib.hid (ContainsFuncT_any _ #[] eg N _ _ _ wr (hp'.tasks.lift (hB.mono hNW)) (Nat.le_trans hNW hBs5) hP)
                  clear hP eg
                  have HF := Lib.hid (show progOk p = !(p.tasks.any fun t => !taskOk t) by rw [H4.out, all_any])
                  go_wp2_with (go_at_call 62; refine HC.out.mono ?_; rintro e w1 ⟨rfl, hB1⟩)
                  go_ret
                  exact ⟨ret_bool HF.out.symm, hBW.trans (Below.mono (by (repeat (first | exact Below.refl _ _ | assumption | apply Below.push | (refine Below.step (by assumption) ?_)))) hBW.size)⟩
end Go.Proofs.YtkfdnlfkomhmfaaGreatDoor
