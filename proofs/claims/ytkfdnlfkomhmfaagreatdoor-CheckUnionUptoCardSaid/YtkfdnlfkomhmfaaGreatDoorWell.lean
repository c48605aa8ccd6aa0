/- Well-formed programs: the reference's WellFormed and the program's. -/
import Derived.Test.YtkfdnlfkomhmfaaGreatDoorTask
import Derived.Test.YtkfdnlfkomhmfaaGreatDoorApp
namespace Go.Proofs.YtkfdnlfkomhmfaaGreatDoor
open Go.RowKit
set_option linter.unusedVariables false
set_option linter.unusedSimpArgs false

def constOk (x : Const) : Bool := ident x.name && decide (-32767 ≤ x.value)
def globOk (x : Glob) : Bool := ident x.name && (num x.len && (decide (-32767 ≤ x.init) && !(decide (0 < x.len) && decide (x.init ≠ 0))))
def chanOk (x : Chan) : Bool := ident x.name && num x.cap
def progOk (p : Prog) : Bool := p.consts.all constOk && (p.globals.all globOk && ((p.sensors ++ p.outputs).all ident && (p.channels.all chanOk && p.tasks.all taskOk)))
theorem all_snoc {α : Type} {f : α → Bool} {l : List α} {k : Nat} {x : α} (h : l[k]? = some x) : (l.take (k + 1)).all f = ((l.take k).all f && f x) := by
  rw [take_snoc h]; simp
theorem all_bad {α : Type} {f : α → Bool} {l : List α} {x : α} (h : x ∈ l) (hx : f x = false) : l.all f = false := by
  rw [List.all_eq_false]; exact ⟨x, h, by simp [hx]⟩
theorem all_full {α : Type} {f : α → Bool} {l : List α} (h : (l.take l.length).all f = true) : l.all f = true := by rwa [List.take_length] at h
theorem prog_c {p : Prog} (h : p.consts.all constOk = false) : progOk p = false := by simp only [progOk, h, Bool.false_and]
theorem prog_g {p : Prog} (h : p.globals.all globOk = false) : progOk p = false := by simp only [progOk, h, Bool.false_and, Bool.and_false]
theorem prog_s {p : Prog} (h : (p.sensors ++ p.outputs).all ident = false) : progOk p = false := by simp only [progOk, h, Bool.false_and, Bool.and_false]
theorem prog_h {p : Prog} (h : p.channels.all chanOk = false) : progOk p = false := by simp only [progOk, h, Bool.false_and, Bool.and_false]
theorem prog_t {p : Prog} (h : p.tasks.all taskOk = false) : progOk p = false := by simp only [progOk, h, Bool.and_false]
theorem prog_ok {p : Prog} (h1 : p.consts.all constOk = true) (h2 : p.globals.all globOk = true) (h3 : (p.sensors ++ p.outputs).all ident = true) (h4 : p.channels.all chanOk = true) : progOk p = p.tasks.all taskOk := by
  simp only [progOk, h1, h2, h3, h4, Bool.true_and]
theorem ProgAt.cname {N : Nat} {w : World} {v0 v1 v2 v3 v4 v5 : Value} {p : Prog} (h : ProgAt N w v0 v1 v2 v3 v4 v5 p) {k : Nat} {x : Const} (hx : p.consts[k]? = some x) : Str x.name := by
  obtain ⟨hk, rfl⟩ := List.getElem?_eq_some_iff.1 hx
  have := (h.wfc k hk).1
  simpa [List.getD, List.getElem?_eq_getElem hk] using this
theorem ProgAt.gname {N : Nat} {w : World} {v0 v1 v2 v3 v4 v5 : Value} {p : Prog} (h : ProgAt N w v0 v1 v2 v3 v4 v5 p) {k : Nat} {x : Glob} (hx : p.globals[k]? = some x) : Str x.name := by
  obtain ⟨hk, rfl⟩ := List.getElem?_eq_some_iff.1 hx
  have := (h.wfg k hk).1
  simpa [List.getD, List.getElem?_eq_getElem hk] using this
theorem ProgAt.hname {N : Nat} {w : World} {v0 v1 v2 v3 v4 v5 : Value} {p : Prog} (h : ProgAt N w v0 v1 v2 v3 v4 v5 p) {k : Nat} {x : Chan} (hx : p.channels[k]? = some x) : Str x.name := by
  obtain ⟨hk, rfl⟩ := List.getElem?_eq_some_iff.1 hx
  have := (h.wfh k hk).1
  simpa [List.getD, List.getElem?_eq_getElem hk] using this
theorem ProgAt.sname {N : Nat} {w : World} {v0 v1 v2 v3 v4 v5 : Value} {p : Prog} (h : ProgAt N w v0 v1 v2 v3 v4 v5 p) {x : ByteArray} (hx : x ∈ p.sensors ++ p.outputs) : Str x := by
  rcases List.mem_append.1 hx with hx | hx
  · obtain ⟨k, hk, rfl⟩ := List.getElem_of_mem hx
    have := h.wfs k hk
    simpa [List.getD, List.getElem?_eq_getElem hk] using this
  · obtain ⟨k, hk, rfl⟩ := List.getElem_of_mem hx
    have := h.wfo k hk
    simpa [List.getD, List.getElem?_eq_getElem hk] using this
set_option maxRecDepth 100000 in
set_option maxHeartbeats 8000000 in
theorem rWellFormed_any (p : Prog) (v0 v1 v2 v3 v4 v5 : Value) (N : Nat) (w : World) (hp : ProgAt N w v0 v1 v2 v3 v4 v5 p) (hN : N ≤ w.heap.size) :
    Calls Tryz.prog 40 #[.agg #[v0, v1, v2, v3, v4, v5]] w fun e w' => e = .returned (.bool (progOk p)) ∧ Below w.heap.size w w' := by
  obtain ⟨o0, q0, rfl, _, _, n0⟩ := SliceAt.slice hp.consts
  obtain ⟨o1, q1, rfl, _, _, n1⟩ := SliceAt.slice hp.globals
  obtain ⟨o2, q2, rfl, _, _, n2⟩ := SliceAt.slice hp.sensors
  obtain ⟨o3, q3, rfl, _, _, n3⟩ := SliceAt.slice hp.outputs
  obtain ⟨o4, q4, rfl, _, _, n4⟩ := SliceAt.slice hp.channels
  obtain ⟨o5, q5, rfl, _, _, n5⟩ := hp.tasks.slice
  have hnum : ∀ n w, Calls Tryz.prog 85 #[.int .i64 n, .int .i64 0] w fun e w' => e = .returned (.bool (num n)) ∧ w' = w := fun n w => rnumber_any n 0 w
  go_enter Tryz.func40, Tryz.ntmps40
  go_upto_region 1 with fail
  have hBW := (Below.refl w.heap.size w).alloc (Nat.le_refl _) (.cells #[.slice o0 p.consts.length q0, .slice o1 p.globals.length q1, .slice o2 p.sensors.length q2, .slice o3 p.outputs.length q3, .slice o4 p.channels.length q4, .slice o5 p.tasks.length q5] 28)
  have d0 : (w.alloc (.cells #[.slice o0 p.consts.length q0, .slice o1 p.globals.length q1, .slice o2 p.sensors.length q2, .slice o3 p.outputs.length q3, .slice o4 p.channels.length q4, .slice o5 p.tasks.length q5] 28)).cell? ⟨w.heap.size, 0, none⟩ = some (.slice o0 p.consts.length q0) := cell_first rfl
  have d1 : (w.alloc (.cells #[.slice o0 p.consts.length q0, .slice o1 p.globals.length q1, .slice o2 p.sensors.length q2, .slice o3 p.outputs.length q3, .slice o4 p.channels.length q4, .slice o5 p.tasks.length q5] 28)).cell? ⟨w.heap.size, 1, none⟩ = some (.slice o1 p.globals.length q1) := cell_first rfl
  have d2 : (w.alloc (.cells #[.slice o0 p.consts.length q0, .slice o1 p.globals.length q1, .slice o2 p.sensors.length q2, .slice o3 p.outputs.length q3, .slice o4 p.channels.length q4, .slice o5 p.tasks.length q5] 28)).cell? ⟨w.heap.size, 2, none⟩ = some (.slice o2 p.sensors.length q2) := cell_first rfl
  have d3 : (w.alloc (.cells #[.slice o0 p.consts.length q0, .slice o1 p.globals.length q1, .slice o2 p.sensors.length q2, .slice o3 p.outputs.length q3, .slice o4 p.channels.length q4, .slice o5 p.tasks.length q5] 28)).cell? ⟨w.heap.size, 3, none⟩ = some (.slice o3 p.outputs.length q3) := cell_first rfl
  have d4 : (w.alloc (.cells #[.slice o0 p.consts.length q0, .slice o1 p.globals.length q1, .slice o2 p.sensors.length q2, .slice o3 p.outputs.length q3, .slice o4 p.channels.length q4, .slice o5 p.tasks.length q5] 28)).cell? ⟨w.heap.size, 4, none⟩ = some (.slice o4 p.channels.length q4) := cell_first rfl
  have d5 : (w.alloc (.cells #[.slice o0 p.consts.length q0, .slice o1 p.globals.length q1, .slice o2 p.sensors.length q2, .slice o3 p.outputs.length q3, .slice o4 p.channels.length q4, .slice o5 p.tasks.length q5] 28)).cell? ⟨w.heap.size, 5, none⟩ = some (.slice o5 p.tasks.length q5) := cell_first rfl
  generalize w.alloc (.cells #[.slice o0 p.consts.length q0, .slice o1 p.globals.length q1, .slice o2 p.sensors.length q2, .slice o3 p.outputs.length q3, .slice o4 p.channels.length q4, .slice o5 p.tasks.length q5] 28) = W at hBW d0 d1 d2 d3 d4 d5 ⊢
  have hp' := hp.lift (hBW.mono hN)
  have hNW : N ≤ W.heap.size := Nat.le_trans hN hBW.size
  clear hp
  go_wp2_with fail
  go_loopw [16] (fun i wr => ∃ k : Nat, k ≤ p.consts.length ∧ i = .int .i64 k ∧ (p.consts.take k).all constOk = true ∧ Below W.heap.size W wr) (fun i _ => p.consts.length - (intOf i).toNat)
  case atStart => exact ⟨0, Nat.zero_le _, rfl, rfl, Below.refl _ _⟩
  case round =>
    obtain ⟨k, hk, rfl, hok, hB⟩ := hrel
    rename World => wr
    have HOK := Lib.hid hok
    clear hok
    have hBs := hB.size
    by_cases hlt : k < p.consts.length
    · obtain ⟨x, b, off, hx, rfl, hb, c0, c1, c2⟩ := ConstsAt.at (SliceAt.lift hp'.consts (hB.mono hNW)) hlt
      have HX := Lib.hid hx
      have hst := Lib.hid (ProgAt.cname hp' hx)
      clear hx
      go_upto_region 4 with fail
      have hZ := (Below.refl wr.heap.size wr).alloc (Nat.le_refl _) (.cells #[.string x.name, .int .i16 x.value, .int .i64 x.pos] 67)
      have z0 : (wr.alloc (.cells #[.string x.name, .int .i16 x.value, .int .i64 x.pos] 67)).cell? ⟨wr.heap.size, 0, none⟩ = some (.string x.name) := cell_first rfl
      have z1 : (wr.alloc (.cells #[.string x.name, .int .i16 x.value, .int .i64 x.pos] 67)).cell? ⟨wr.heap.size, 1, none⟩ = some (.int .i16 x.value) := cell_first rfl
      have z2 : (wr.alloc (.cells #[.string x.name, .int .i16 x.value, .int .i64 x.pos] 67)).cell? ⟨wr.heap.size, 2, none⟩ = some (.int .i64 x.pos) := cell_first rfl
      generalize wr.alloc (.cells #[.string x.name, .int .i16 x.value, .int .i64 x.pos] 67) = Z at hZ z0 z1 z2 ⊢
      cases hid : ident x.name
      case false =>
        have HF := Lib.hid (show progOk p = false from prog_c (all_bad (List.mem_of_getElem? HX.out) (by simp [constOk, hid])))
        go_wp2_with (first | (go_at_call 84; refine (Ident_any _ _ hst.out).mono ?_; rintro e w1 ⟨rfl, hB1⟩; replace z0 := cell_later z0 hB1; replace z1 := cell_later z1 hB1; replace z2 := cell_later z2 hB1) | (go_at_call 85; refine (hnum _ _).mono ?_; rintro e w2 ⟨rfl, rfl⟩))
        go_ret
        exact ⟨ret_bool HF.out.symm, hBW.trans (Below.mono (by (repeat (first | exact Below.refl _ _ | assumption | apply Below.push | (refine Below.step (by assumption) ?_)))) hBW.size)⟩
      case true =>
      by_cases hv : x.value < -32767
      case pos =>
        have HF := Lib.hid (show progOk p = false from prog_c (all_bad (List.mem_of_getElem? HX.out) (by simp only [constOk, decide_eq_false (show ¬ -32767 ≤ x.value by omega), Bool.and_false])))
        go_wp2_with (first | (go_at_call 84; refine (Ident_any _ _ hst.out).mono ?_; rintro e w1 ⟨rfl, hB1⟩; replace z0 := cell_later z0 hB1; replace z1 := cell_later z1 hB1; replace z2 := cell_later z2 hB1) | (go_at_call 85; refine (hnum _ _).mono ?_; rintro e w2 ⟨rfl, rfl⟩))
        go_ret
        exact ⟨ret_bool HF.out.symm, hBW.trans (Below.mono (by (repeat (first | exact Below.refl _ _ | assumption | apply Below.push | (refine Below.step (by assumption) ?_)))) hBW.size)⟩
      case neg =>
        have HNX := Lib.hid (show (p.consts.take (k + 1)).all _ = true by rw [all_snoc HX.out, HOK.out, show constOk x = true by simp only [constOk, hid, decide_eq_true (show -32767 ≤ x.value by omega)]; rfl]; rfl)
        go_wp2_with (first | (go_at_call 84; refine (Ident_any _ _ hst.out).mono ?_; rintro e w1 ⟨rfl, hB1⟩; replace z0 := cell_later z0 hB1; replace z1 := cell_later z1 hB1; replace z2 := cell_later z2 hB1) | (go_at_call 85; refine (hnum _ _).mono ?_; rintro e w2 ⟨rfl, rfl⟩))
        go_roundw
        case rel =>
          first | exact ⟨k + 1, by omega, by go_num, HNX.out, by (repeat (first | exact Below.refl _ _ | assumption | apply Below.push | (refine Below.step (by assumption) ?_)))⟩ | ((repeat apply Exists.intro); exact ⟨⟨k + 1, by omega, by go_num, HNX.out, by (repeat (first | exact Below.refl _ _ | assumption | apply Below.push | (refine Below.step (by assumption) ?_)))⟩, rfl⟩)
        case measure => simp [intOf]; omega
    · have hk2 : k = p.consts.length := by omega
      subst hk2
      have H1 := Lib.hid (all_full HOK.out)
      have g1 := cell_later d1 hB
      clear HOK hlt hk
      go_wp2_with fail
      go_loopw [33] (fun i wr => ∃ k : Nat, k ≤ p.globals.length ∧ i = .int .i64 k ∧ (p.globals.take k).all globOk = true ∧ Below W.heap.size W wr) (fun i _ => p.globals.length - (intOf i).toNat)
      case atStart => exact ⟨0, Nat.zero_le _, rfl, rfl, hB⟩
      clear hB hBs
      case round =>
        obtain ⟨k, hk, rfl, hok, hB⟩ := hrel
        rename World => wr
        have HOK := Lib.hid hok
        clear hok
        have hBs := hB.size
        by_cases hlt : k < p.globals.length
        · obtain ⟨x, b, off, hx, rfl, hb, c0, c1, c2, c3⟩ := GlobsAt.at (SliceAt.lift hp'.globals (hB.mono hNW)) hlt
          have HX := Lib.hid hx
          have hst := Lib.hid (ProgAt.gname hp' hx)
          clear hx
          go_upto_region 10 with fail
          have hZ := (Below.refl wr.heap.size wr).alloc (Nat.le_refl _) (.cells #[.string x.name, .int .i64 x.len, .int .i16 x.init, .int .i64 x.pos] 69)
          have z0 : (wr.alloc (.cells #[.string x.name, .int .i64 x.len, .int .i16 x.init, .int .i64 x.pos] 69)).cell? ⟨wr.heap.size, 0, none⟩ = some (.string x.name) := cell_first rfl
          have z1 : (wr.alloc (.cells #[.string x.name, .int .i64 x.len, .int .i16 x.init, .int .i64 x.pos] 69)).cell? ⟨wr.heap.size, 1, none⟩ = some (.int .i64 x.len) := cell_first rfl
          have z2 : (wr.alloc (.cells #[.string x.name, .int .i64 x.len, .int .i16 x.init, .int .i64 x.pos] 69)).cell? ⟨wr.heap.size, 2, none⟩ = some (.int .i16 x.init) := cell_first rfl
          have z3 : (wr.alloc (.cells #[.string x.name, .int .i64 x.len, .int .i16 x.init, .int .i64 x.pos] 69)).cell? ⟨wr.heap.size, 3, none⟩ = some (.int .i64 x.pos) := cell_first rfl
          generalize wr.alloc (.cells #[.string x.name, .int .i64 x.len, .int .i16 x.init, .int .i64 x.pos] 69) = Z at hZ z0 z1 z2 z3 ⊢
          cases hid : ident x.name
          case false =>
            have HF := Lib.hid (show progOk p = false from prog_g (all_bad (List.mem_of_getElem? HX.out) (by simp [globOk, hid])))
            go_wp2_with (first | (go_at_call 84; refine (Ident_any _ _ hst.out).mono ?_; rintro e w1 ⟨rfl, hB1⟩; replace z0 := cell_later z0 hB1; replace z1 := cell_later z1 hB1; replace z2 := cell_later z2 hB1; replace z3 := cell_later z3 hB1) | (go_at_call 85; refine (hnum _ _).mono ?_; rintro e w2 ⟨rfl, rfl⟩))
            go_ret
            exact ⟨ret_bool HF.out.symm, hBW.trans (Below.mono (by (repeat (first | exact Below.refl _ _ | assumption | apply Below.push | (refine Below.step (by assumption) ?_)))) hBW.size)⟩
          case true =>
          cases hn : num x.len
          case false =>
            have HF := Lib.hid (show progOk p = false from prog_g (all_bad (List.mem_of_getElem? HX.out) (by simp [globOk, hn])))
            go_wp2_with (first | (go_at_call 84; refine (Ident_any _ _ hst.out).mono ?_; rintro e w1 ⟨rfl, hB1⟩; replace z0 := cell_later z0 hB1; replace z1 := cell_later z1 hB1; replace z2 := cell_later z2 hB1; replace z3 := cell_later z3 hB1) | (go_at_call 85; refine (hnum _ _).mono ?_; rintro e w2 ⟨rfl, rfl⟩))
            go_ret
            exact ⟨ret_bool HF.out.symm, hBW.trans (Below.mono (by (repeat (first | exact Below.refl _ _ | assumption | apply Below.push | (refine Below.step (by assumption) ?_)))) hBW.size)⟩
          case true =>
          by_cases hv : x.init < -32767
          case pos =>
            have HF := Lib.hid (show progOk p = false from prog_g (all_bad (List.mem_of_getElem? HX.out) (by simp only [globOk, decide_eq_false (show ¬ -32767 ≤ x.init by omega), Bool.false_and, Bool.and_false])))
            go_wp2_with (first | (go_at_call 84; refine (Ident_any _ _ hst.out).mono ?_; rintro e w1 ⟨rfl, hB1⟩; replace z0 := cell_later z0 hB1; replace z1 := cell_later z1 hB1; replace z2 := cell_later z2 hB1; replace z3 := cell_later z3 hB1) | (go_at_call 85; refine (hnum _ _).mono ?_; rintro e w2 ⟨rfl, rfl⟩))
            go_ret
            exact ⟨ret_bool HF.out.symm, hBW.trans (Below.mono (by (repeat (first | exact Below.refl _ _ | assumption | apply Below.push | (refine Below.step (by assumption) ?_)))) hBW.size)⟩
          case neg =>
          have hv2 := Lib.hid (decide_eq_true (show -32767 ≤ x.init by omega))
          by_cases hl : 0 < x.len
          case neg =>
            have HNX := Lib.hid (show (p.globals.take (k + 1)).all _ = true by rw [all_snoc HX.out, HOK.out, show globOk x = true by simp only [globOk, hid, hn, hv2.out, decide_eq_false hl]; rfl]; rfl)
            go_wp2_with (first | (go_at_call 84; refine (Ident_any _ _ hst.out).mono ?_; rintro e w1 ⟨rfl, hB1⟩; replace z0 := cell_later z0 hB1; replace z1 := cell_later z1 hB1; replace z2 := cell_later z2 hB1; replace z3 := cell_later z3 hB1) | (go_at_call 85; refine (hnum _ _).mono ?_; rintro e w2 ⟨rfl, rfl⟩))
            go_roundw
            case rel =>
              first | exact ⟨k + 1, by omega, by go_num, HNX.out, by (repeat (first | exact Below.refl _ _ | assumption | apply Below.push | (refine Below.step (by assumption) ?_)))⟩ | ((repeat apply Exists.intro); exact ⟨⟨k + 1, by omega, by go_num, HNX.out, by (repeat (first | exact Below.refl _ _ | assumption | apply Below.push | (refine Below.step (by assumption) ?_)))⟩, rfl⟩)
            case measure => simp [intOf]; omega
          case pos =>
          by_cases hi : x.init = 0
          case neg =>
            have hib : (x.init != 0) = true := bne_iff_ne.2 hi
            have HF := Lib.hid (show progOk p = false from prog_g (all_bad (List.mem_of_getElem? HX.out) (by simp [globOk, hl, hi])))
            clear hi
            go_wp2_with (first | (go_at_call 84; refine (Ident_any _ _ hst.out).mono ?_; rintro e w1 ⟨rfl, hB1⟩; replace z0 := cell_later z0 hB1; replace z1 := cell_later z1 hB1; replace z2 := cell_later z2 hB1; replace z3 := cell_later z3 hB1) | (go_at_call 85; refine (hnum _ _).mono ?_; rintro e w2 ⟨rfl, rfl⟩))
            go_ret
            exact ⟨ret_bool HF.out.symm, hBW.trans (Below.mono (by (repeat (first | exact Below.refl _ _ | assumption | apply Below.push | (refine Below.step (by assumption) ?_)))) hBW.size)⟩
          case pos =>
            have hib : (x.init != 0) = false := bne_eq_false_iff_eq.2 hi
            have HNX := Lib.hid (show (p.globals.take (k + 1)).all _ = true by rw [all_snoc HX.out, HOK.out, show globOk x = true by simp only [globOk, hid, hn, hv2.out]; simp [hi]]; rfl)
            clear hi
            go_wp2_with (first | (go_at_call 84; refine (Ident_any _ _ hst.out).mono ?_; rintro e w1 ⟨rfl, hB1⟩; replace z0 := cell_later z0 hB1; replace z1 := cell_later z1 hB1; replace z2 := cell_later z2 hB1; replace z3 := cell_later z3 hB1) | (go_at_call 85; refine (hnum _ _).mono ?_; rintro e w2 ⟨rfl, rfl⟩))
            go_roundw
            case rel =>
              first | exact ⟨k + 1, by omega, by go_num, HNX.out, by (repeat (first | exact Below.refl _ _ | assumption | apply Below.push | (refine Below.step (by assumption) ?_)))⟩ | ((repeat apply Exists.intro); exact ⟨⟨k + 1, by omega, by go_num, HNX.out, by (repeat (first | exact Below.refl _ _ | assumption | apply Below.push | (refine Below.step (by assumption) ?_)))⟩, rfl⟩)
            case measure => simp [intOf]; omega
        · have hk2 : k = p.globals.length := by omega
          subst hk2
          have H2 := Lib.hid (all_full HOK.out)
          have g2 := cell_later d2 hB
          have g3 := cell_later d3 hB
          clear HOK hlt hk g1
          go_wp2_with fail
          skip
          have a2 : (wr.alloc (.cells #[] 9)).cell? ⟨w.heap.size, 2, none⟩ = some (.slice o2 p.sensors.length q2) := cell_past g2 (cell_lt g2)
          have a3 : (wr.alloc (.cells #[] 9)).cell? ⟨w.heap.size, 3, none⟩ = some (.slice o3 p.outputs.length q3) := cell_past g3 (cell_lt g3)
          have b0 : Below wr.heap.size wr (wr.alloc (.cells #[] 9)).drew := ((Below.refl wr.heap.size wr).alloc (Nat.le_refl _) _).drew
          have hX2 : FlatAt strCells 1 N (wr.alloc (.cells #[] 9)).drew (.slice o2 p.sensors.length q2) p.sensors := SliceAt.lift hp'.sensors ((hB.mono hNW).trans (b0.mono (Nat.le_trans hNW hBs)))
          have hO0 : OwnAt strCells 1 9 wr.heap.size (wr.alloc (.cells #[] 9)).drew (.slice (some ⟨wr.heap.size, 0, none⟩) 0 0) ([] : List ByteArray) := OwnAt.empty _ _ _ _
          go_cut [69, 70, 71] (fun s69 s70 s71 wx => OwnAt strCells 1 9 wr.heap.size wx s69 (p.sensors ++ p.outputs) ∧ s70 = .int .i64 ((p.sensors ++ p.outputs).length : Nat) ∧ s71 = .int .i64 0 ∧ Below wr.heap.size wr wx)
          case first =>
            go_region_law (first | (refine step_appendL rfl _ _ 24 rfl 9 Tryz.underlying24 infoStr rfl (by decide) (by decide) str_len str_one hO1 rfl rfl hX3 (by simp; omega) hb1.size ?_; intro v2 w2 hO2 hg2 _; have hb2 : Below wr.heap.size wr w2 := hb1.trans (OwnAt.below hO1 hg2 hb1.size); obtain ⟨oa, cap, rfl, _, _⟩ := hO2.slice) | (refine step_appendL rfl _ _ 24 rfl 9 Tryz.underlying24 infoStr rfl (by decide) (by decide) str_len str_one hO0 rfl rfl hX2 (by simp; omega) (by simp) ?_; intro v1 w1 hO1 hg1 _; have hb1 : Below wr.heap.size wr w1 := b0.trans (OwnAt.below hO0 hg1 (by simp)); have k3 := cell_later g3 hb1; have hX3 : FlatAt strCells 1 N w1 (.slice o3 p.outputs.length q3) p.outputs := SliceAt.lift hp'.outputs ((hB.mono hNW).trans (hb1.mono (Nat.le_trans hNW hBs)))))
            all_goals (try go_wp2_with fail)
            all_goals go_meet
            all_goals exact ⟨by simpa using hO2, by simp, rfl, hb2⟩
          case rest =>
            obtain ⟨hO, rfl, rfl, hBc⟩ := hcut
            clear a2 a3 b0 hX2 hO0
            obtain ⟨oa, cap, rfl, hc1, hc2⟩ := hO.slice
            have hBcW : Below W.heap.size W wc := hB.trans (hBc.mono hBs)
            have hll := Lib.hid (show (p.sensors ++ p.outputs).length ≤ 2097152 by simp; omega)
            have HS := Lib.hid (fun x (h : x ∈ p.sensors ++ p.outputs) => ProgAt.sname hp' h)
            have hPS : (p.sensors ++ p.outputs).all ident = false → progOk p = false := prog_s
            have hPS2 := Lib.hid (fun h3 h4 => prog_ok (p := p) H1.out H2.out h3 h4)
            clear H1 H2
            generalize p.sensors ++ p.outputs = L at *
            have HPS := Lib.hid hPS
            clear hPS g2 g3
            go_wp2_with fail
            go_loopw [71] (fun i wr => ∃ k : Nat, k ≤ L.length ∧ i = .int .i64 k ∧ (L.take k).all ident = true ∧ Below wc.heap.size wc wr) (fun i _ => L.length - (intOf i).toNat)
            case atStart => exact ⟨0, Nat.zero_le _, rfl, rfl, Below.refl _ _⟩
            have hBW2 : Below w.heap.size w wc := hBW.trans (hBcW.mono hBW.size)
            clear hB hBs
            case round =>
              obtain ⟨k, hk, rfl, hok, hB⟩ := hrel
              rename World => wr
              have HOK := Lib.hid hok
              clear hok
              have hBs := hB.size
              by_cases hlt : k < L.length
              · have hll' := hll.out
                obtain ⟨x, b, hx, rfl, hb, c0⟩ := OwnAt.strAt (hO.later hB) hlt
                have HX := Lib.hid hx
                have hst := Lib.hid (HS.out x (List.mem_of_getElem? hx))
                clear hx
                cases hid : ident x
                case false =>
                  have HF := Lib.hid (show progOk p = false from HPS.out (all_bad (List.mem_of_getElem? HX.out) hid))
                  go_wp2_with (first | (go_at_call 84; refine (Ident_any _ _ hst.out).mono ?_; rintro e w1 ⟨rfl, hB1⟩; ) | (go_at_call 85; refine (hnum _ _).mono ?_; rintro e w2 ⟨rfl, rfl⟩))
                  go_ret
                  exact ⟨ret_bool HF.out.symm, hBW2.trans (Below.mono (by (repeat (first | exact Below.refl _ _ | assumption | apply Below.push | (refine Below.step (by assumption) ?_)))) hBW2.size)⟩
                case true =>
                  have HNX := Lib.hid (show (L.take (k + 1)).all _ = true by rw [all_snoc HX.out, HOK.out, show ident x = true from hid]; rfl)
                  go_wp2_with (first | (go_at_call 84; refine (Ident_any _ _ hst.out).mono ?_; rintro e w1 ⟨rfl, hB1⟩; ) | (go_at_call 85; refine (hnum _ _).mono ?_; rintro e w2 ⟨rfl, rfl⟩))
                  go_roundw
                  case rel =>
                    first | exact ⟨k + 1, by omega, by go_num, HNX.out, by (repeat (first | exact Below.refl _ _ | assumption | apply Below.push | (refine Below.step (by assumption) ?_)))⟩ | ((repeat apply Exists.intro); exact ⟨⟨k + 1, by omega, by go_num, HNX.out, by (repeat (first | exact Below.refl _ _ | assumption | apply Below.push | (refine Below.step (by assumption) ?_)))⟩, rfl⟩)
                  case measure => simp [intOf]; omega
              · have hk2 : k = L.length := by omega
                subst hk2
                have H3 := Lib.hid (all_full HOK.out)
                have hB4 : Below W.heap.size W wr := hBcW.trans (hB.mono hBcW.size)
                have hB4s := hB4.size
                have g4 := cell_later d4 hB4
                clear HOK hlt hk hBW2 hB hBs hBc HPS HS
                go_wp2_with fail
                go_loopw [82] (fun i wr => ∃ k : Nat, k ≤ p.channels.length ∧ i = .int .i64 k ∧ (p.channels.take k).all chanOk = true ∧ Below W.heap.size W wr) (fun i _ => p.channels.length - (intOf i).toNat)
                case atStart => exact ⟨0, Nat.zero_le _, rfl, rfl, hB4⟩
                clear hB4 hB4s
                case round =>
                  obtain ⟨k, hk, rfl, hok, hB⟩ := hrel
                  rename World => wr
                  have HOK := Lib.hid hok
                  clear hok
                  have hBs := hB.size
                  by_cases hlt : k < p.channels.length
                  · obtain ⟨x, b, off, hx, rfl, hb, c0, c1, c2⟩ := ChansAt.at (SliceAt.lift hp'.channels (hB.mono hNW)) hlt
                    have HX := Lib.hid hx
                    have hst := Lib.hid (ProgAt.hname hp' hx)
                    clear hx
                    go_upto_region 22 with fail
                    have hZ := (Below.refl wr.heap.size wr).alloc (Nat.le_refl _) (.cells #[.string x.name, .int .i64 x.cap, .int .i64 x.pos] 97)
                    have z0 : (wr.alloc (.cells #[.string x.name, .int .i64 x.cap, .int .i64 x.pos] 97)).cell? ⟨wr.heap.size, 0, none⟩ = some (.string x.name) := cell_first rfl
                    have z1 : (wr.alloc (.cells #[.string x.name, .int .i64 x.cap, .int .i64 x.pos] 97)).cell? ⟨wr.heap.size, 1, none⟩ = some (.int .i64 x.cap) := cell_first rfl
                    have z2 : (wr.alloc (.cells #[.string x.name, .int .i64 x.cap, .int .i64 x.pos] 97)).cell? ⟨wr.heap.size, 2, none⟩ = some (.int .i64 x.pos) := cell_first rfl
                    generalize wr.alloc (.cells #[.string x.name, .int .i64 x.cap, .int .i64 x.pos] 97) = Z at hZ z0 z1 z2 ⊢
                    cases hid : ident x.name
                    case false =>
                      have HF := Lib.hid (show progOk p = false from prog_h (all_bad (List.mem_of_getElem? HX.out) (by simp [chanOk, hid])))
                      go_wp2_with (first | (go_at_call 84; refine (Ident_any _ _ hst.out).mono ?_; rintro e w1 ⟨rfl, hB1⟩; replace z0 := cell_later z0 hB1; replace z1 := cell_later z1 hB1; replace z2 := cell_later z2 hB1) | (go_at_call 85; refine (hnum _ _).mono ?_; rintro e w2 ⟨rfl, rfl⟩))
                      go_ret
                      exact ⟨ret_bool HF.out.symm, hBW.trans (Below.mono (by (repeat (first | exact Below.refl _ _ | assumption | apply Below.push | (refine Below.step (by assumption) ?_)))) hBW.size)⟩
                    case true =>
                    cases hn : num x.cap
                    case false =>
                      have HF := Lib.hid (show progOk p = false from prog_h (all_bad (List.mem_of_getElem? HX.out) (by simp [chanOk, hn])))
                      go_wp2_with (first | (go_at_call 84; refine (Ident_any _ _ hst.out).mono ?_; rintro e w1 ⟨rfl, hB1⟩; replace z0 := cell_later z0 hB1; replace z1 := cell_later z1 hB1; replace z2 := cell_later z2 hB1) | (go_at_call 85; refine (hnum _ _).mono ?_; rintro e w2 ⟨rfl, rfl⟩))
                      go_ret
                      exact ⟨ret_bool HF.out.symm, hBW.trans (Below.mono (by (repeat (first | exact Below.refl _ _ | assumption | apply Below.push | (refine Below.step (by assumption) ?_)))) hBW.size)⟩
                    case true =>
                      have HNX := Lib.hid (show (p.channels.take (k + 1)).all _ = true by rw [all_snoc HX.out, HOK.out, show chanOk x = true by simp only [chanOk, hid, hn]; rfl]; rfl)
                      go_wp2_with (first | (go_at_call 84; refine (Ident_any _ _ hst.out).mono ?_; rintro e w1 ⟨rfl, hB1⟩; replace z0 := cell_later z0 hB1; replace z1 := cell_later z1 hB1; replace z2 := cell_later z2 hB1) | (go_at_call 85; refine (hnum _ _).mono ?_; rintro e w2 ⟨rfl, rfl⟩))
                      go_roundw
                      case rel =>
                        first | exact ⟨k + 1, by omega, by go_num, HNX.out, by (repeat (first | exact Below.refl _ _ | assumption | apply Below.push | (refine Below.step (by assumption) ?_)))⟩ | ((repeat apply Exists.intro); exact ⟨⟨k + 1, by omega, by go_num, HNX.out, by (repeat (first | exact Below.refl _ _ | assumption | apply Below.push | (refine Below.step (by assumption) ?_)))⟩, rfl⟩)
                      case measure => simp [intOf]; omega
                  · have hk2 : k = p.channels.length := by omega
                    subst hk2
                    have H4 := Lib.hid (hPS2.out H3.out (all_full HOK.out))
                    have g5 := cell_later d5 hB
                    clear HOK hlt hk g4 H3 hPS2
                    go_wp2_with fail
                    go_loopw [100] (fun i wr => ∃ k : Nat, k ≤ p.tasks.length ∧ i = .int .i64 k ∧ (p.tasks.take k).all taskOk = true ∧ Below W.heap.size W wr) (fun i _ => p.tasks.length - (intOf i).toNat)
                    case atStart => exact ⟨0, Nat.zero_le _, rfl, rfl, hB⟩
                    clear hB hBs
                    case round =>
                      obtain ⟨k, hk, rfl, hok, hB⟩ := hrel
                      rename World => wr
                      have HOK := Lib.hid hok
                      clear hok
                      have hBs := hB.size
                      by_cases hlt : k < p.tasks.length
                      · obtain ⟨x, b, off, vb, hx, rfl, hb, hxw, hbo, c0, c1, c2, c3, c4, c5, c6, c7⟩ := TasksAt.at (hp'.tasks.lift (hB.mono hNW)) hlt
                        obtain ⟨ob, cb, rfl, _, _, _⟩ := hbo.slice
                        have HX := Lib.hid hx
                        have HC := fun Z (h : Below wr.heap.size wr Z) => rTaskOK_any x (.slice ob x.body.length cb) N Z hxw (hbo.lift (h.mono (Nat.le_trans hNW hBs))) (Nat.le_trans (Nat.le_trans hNW hBs) h.size)
                        clear hx
                        rw [taskOkR_eq] at HC
                        cases hid : taskOk x
                        case false =>
                          rw [hid] at HC
                          have HTK := Lib.hid HC
                          clear HC
                          have HF := Lib.hid (show progOk p = false from prog_t (all_bad (List.mem_of_getElem? HX.out) hid))
                          clear hid
                          go_wp2_with (go_at_call 86; refine (HTK.out _ (by (repeat (first | exact Below.refl _ _ | assumption | apply Below.push | (refine Below.step (by assumption) ?_))))).mono ?_; rintro e w1 ⟨rfl, hB1⟩)
                          go_ret
                          exact ⟨ret_bool HF.out.symm, hBW.trans (Below.mono (by (repeat (first | exact Below.refl _ _ | assumption | apply Below.push | (refine Below.step (by assumption) ?_)))) hBW.size)⟩
                        case true =>
                          rw [hid] at HC
                          have HTK := Lib.hid HC
                          clear HC
                          have HNX := Lib.hid (show (p.tasks.take (k + 1)).all _ = true by rw [all_snoc HX.out, HOK.out, show taskOk x = true from hid]; rfl)
                          clear hid
                          go_wp2_with (go_at_call 86; refine (HTK.out _ (by (repeat (first | exact Below.refl _ _ | assumption | apply Below.push | (refine Below.step (by assumption) ?_))))).mono ?_; rintro e w1 ⟨rfl, hB1⟩)
                          go_roundw
                          case rel =>
                            first | exact ⟨k + 1, by omega, by go_num, HNX.out, by (repeat (first | exact Below.refl _ _ | assumption | apply Below.push | (refine Below.step (by assumption) ?_)))⟩ | ((repeat apply Exists.intro); exact ⟨⟨k + 1, by omega, by go_num, HNX.out, by (repeat (first | exact Below.refl _ _ | assumption | apply Below.push | (refine Below.step (by assumption) ?_)))⟩, rfl⟩)
                          case measure => simp [intOf]; omega
                      · have hk2 : k = p.tasks.length := by omega
                        subst hk2
                        have HF := Lib.hid (show progOk p = true by rw [H4.out]; exact all_full HOK.out)
                        go_wp2_with fail
                        go_ret
                        exact ⟨ret_bool HF.out.symm, hBW.trans (Below.mono (by (repeat (first | exact Below.refl _ _ | assumption | apply Below.push | (refine Below.step (by assumption) ?_)))) hBW.size)⟩
end Go.Proofs.YtkfdnlfkomhmfaaGreatDoor
