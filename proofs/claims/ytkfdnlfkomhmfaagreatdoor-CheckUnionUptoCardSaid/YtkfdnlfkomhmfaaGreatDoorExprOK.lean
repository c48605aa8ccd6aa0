/- Well-formed expressions: the reference's ExprOK answers as the program's wellFormed. -/
import Derived.Test.YtkfdnlfkomhmfaaGreatDoorPlain
import Derived.Test.YtkfdnlfkomhmfaaGreatDoorMore
namespace Go.Proofs.YtkfdnlfkomhmfaaGreatDoor
open Go.RowKit
set_option linter.unusedVariables false
set_option linter.unusedSimpArgs false

def bareN (x : Expr) : ByteArray := if x.kind = 2 ∨ x.kind = 3 ∨ x.kind = 4 then x.name else emp
def bareV (x : Expr) : Int := if x.kind = 1 then x.value else 0
def bareO (x : Expr) : Int := if x.kind = 1 ∨ x.kind = 2 ∨ x.kind = 3 ∨ x.kind = 4 then 0 else x.op
def refArity (kind : Int) : Int := if kind = 1 ∨ kind = 2 ∨ kind = 4 then 0 else if kind = 3 ∨ kind = 5 then 1 else if kind = 6 then 2 else -1
def headP (x : Expr) : Prop := (x.args.length : Int) = refArity x.kind ∧ x.name = bareN x ∧ x.value = bareV x ∧ x.op = bareO x
instance (x : Expr) : Decidable (headP x) := by unfold headP; exact inferInstance
def kOk (x : Expr) : Bool := if x.kind = 1 then decide (0 ≤ x.value) else if x.kind = 5 then decide (x.op = 1 ∨ x.op = 2) else if x.kind = 6 then decide (3 ≤ x.op ∧ x.op ≤ 15) else ident x.name

theorem kindCases (k : Int) : k = 1 ∨ k = 2 ∨ k = 3 ∨ k = 4 ∨ k = 5 ∨ k = 6 ∨ (k ≠ 1 ∧ k ≠ 2 ∧ k ≠ 3 ∧ k ≠ 4 ∧ k ≠ 5 ∧ k ≠ 6) := by omega

theorem exprOk_ref (x : Expr) : exprOk x = (decide (headP x) && exprsOk x.args && kOk x) := by
  have h : (plainB x && decide ((x.args.length : Int) = arityOf x.kind)) = (decide (headP x) && kOk x) := by
    obtain ⟨kind, name, value, op, args, pos⟩ := x
    have key : ∀ (p q : Bool), (p = true ↔ q = true) → p = q := fun p q h => by cases p <;> cases q <;> simp_all
    apply key
    rcases kindCases kind with rfl | rfl | rfl | rfl | rfl | rfl | ⟨h1, h2, h3, h4, h5, h6⟩
    · simp [plainB, plainP, arityOf, headP, refArity, bareN, bareV, bareO, kOk]
      constructor <;> (intro h; simp [h])
    · simp [plainB, plainP, arityOf, headP, refArity, bareN, bareV, bareO, kOk]
      constructor <;> (intro h; simp [h])
    · simp [plainB, plainP, arityOf, headP, refArity, bareN, bareV, bareO, kOk]
      constructor <;> (intro h; simp [h])
    · simp [plainB, plainP, arityOf, headP, refArity, bareN, bareV, bareO, kOk]
      constructor <;> (intro h; simp [h])
    · simp [plainB, plainP, arityOf, headP, refArity, bareN, bareV, bareO, kOk]
      constructor
      · intro ⟨⟨a, b, c, d⟩, e⟩; exact ⟨⟨e, c, d⟩, by omega⟩
      · intro ⟨⟨e, c, d⟩, b⟩; exact ⟨⟨by omega, by omega, c, d⟩, e⟩
    · simp [plainB, plainP, arityOf, headP, refArity, bareN, bareV, bareO, kOk]
      constructor
      · intro ⟨⟨a, b, c, d⟩, e⟩; exact ⟨⟨e, c, d⟩, by omega⟩
      · intro ⟨⟨e, c, d⟩, b⟩; exact ⟨⟨by omega, by omega, c, d⟩, e⟩
    · simp [plainB, plainP, headP, refArity, h1, h2, h3, h4, h5, h6]
  rw [exprOk_eq, h]
  cases decide (headP x) <;> cases exprsOk x.args <;> cases kOk x <;> rfl

theorem arity_any (k : Int) (w : World) : Calls Tryz.prog 176 #[.int .i64 k] w fun e w' => e = .returned (.int .i64 (refArity k)) ∧ Below w.heap.size w w' := by
  rcases kindCases k with rfl | rfl | rfl | rfl | rfl | rfl | ⟨h1, h2, h3, h4, h5, h6⟩
  case inr.inr.inr.inr.inr.inr =>
    have g1 : (k == 1) = false := beq_eq_false_iff_ne.2 h1
    have g2 : (k == 2) = false := beq_eq_false_iff_ne.2 h2
    have g3 : (k == 3) = false := beq_eq_false_iff_ne.2 h3
    have g4 : (k == 4) = false := beq_eq_false_iff_ne.2 h4
    have g5 : (k == 5) = false := beq_eq_false_iff_ne.2 h5
    have g6 : (k == 6) = false := beq_eq_false_iff_ne.2 h6
    have hr : refArity k = -1 := by simp [refArity, h1, h2, h3, h4, h5, h6]
    rw [hr]
    clear hr h1 h2 h3 h4 h5 h6
    go_enter Tryz.func176, Tryz.ntmps176
    go_wp2
    go_ret
    exact ⟨rfl, Below.refl _ _⟩
  all_goals go_enter Tryz.func176, Tryz.ntmps176
  all_goals go_wp2
  all_goals go_ret
  all_goals exact ⟨rfl, Below.refl _ _⟩

theorem rbare_any (x : Expr) (oa : Option Addr) (n cap : Nat) (w : World) :
    Calls Tryz.prog 175 #[.agg #[.int .i64 x.kind, .string x.name, .int .i16 x.value, .int .i64 x.op, .slice oa n cap, .int .i64 x.pos]] w fun e w' =>
      e = .returned (.agg #[.int .i64 x.kind, .string (bareN x), .int .i16 (bareV x), .int .i64 (bareO x), .slice none 0 0, .int .i64 0]) ∧ Below w.heap.size w w' := by
  obtain ⟨k, name, value, op, args, pos⟩ := x
  rcases kindCases k with rfl | rfl | rfl | rfl | rfl | rfl | ⟨h1, h2, h3, h4, h5, h6⟩
  case inr.inr.inr.inr.inr.inr =>
    have g1 : (k == 1) = false := beq_eq_false_iff_ne.2 h1
    have g2 : (k == 2) = false := beq_eq_false_iff_ne.2 h2
    have g3 : (k == 3) = false := beq_eq_false_iff_ne.2 h3
    have g4 : (k == 4) = false := beq_eq_false_iff_ne.2 h4
    have hn : bareN ⟨k, name, value, op, args, pos⟩ = emp := by simp [bareN, h2, h3, h4]
    have hv : bareV ⟨k, name, value, op, args, pos⟩ = 0 := by simp [bareV, h1]
    have ho : bareO ⟨k, name, value, op, args, pos⟩ = op := by simp [bareO, h1, h2, h3, h4]
    rw [hn, hv, ho]
    clear hn hv ho h1 h2 h3 h4 h5 h6
    go_enter Tryz.func175, Tryz.ntmps175
    go_wp2
    exact bodyPost_ret (v := .agg #[.int .i64 k, .string emp, .int .i16 0, .int .i64 op, .slice none 0 0, .int .i64 0]) (by simp [results, Tryz.results175, go_sem, emp]) rfl ⟨rfl, by go_grown⟩
  all_goals go_enter Tryz.func175, Tryz.ntmps175
  all_goals go_wp2
  all_goals refine bodyPost_ret (v := .agg #[.int .i64 _, .string _, .int .i16 _, .int .i64 _, .slice none 0 0, .int .i64 0]) (by simp [results, Tryz.results175, go_sem, bareN, bareV, bareO, emp]) rfl ⟨rfl, by go_grown⟩

theorem exprsOk_snoc {l : List Expr} {k : Nat} {x : Expr} (h : l[k]? = some x) : exprsOk (l.take (k + 1)) = (exprsOk (l.take k) && exprOk x) := by
  rw [take_snoc h, exprsOk_all, exprsOk_all]; simp
theorem exprsOk_take {l : List Expr} {k : Nat} (h : exprsOk l = true) : exprsOk (l.take k) = true := by
  rw [exprsOk_all] at *
  rw [List.all_eq_true] at *
  intro x hx; exact h x (List.mem_of_mem_take hx)
theorem kOk_eq (x : Expr) (h : x.kind ≠ 1 ∧ x.kind ≠ 5 ∧ x.kind ≠ 6) : kOk x = ident x.name := by simp [kOk, h.1, h.2.1, h.2.2]

set_option maxHeartbeats 4000000 in
theorem ExprOK_any (m : Nat) : ∀ (x : Expr) (va : Value) (N : Nat) (w : World), esz x < m → x.Wf → ExprsAt N w va x.args → N ≤ w.heap.size →
    Calls Tryz.prog 158 #[.agg #[.int .i64 x.kind, .string x.name, .int .i16 x.value, .int .i64 x.op, va, .int .i64 x.pos]] w fun e w' => e = .returned (.bool (exprOk x)) ∧ Below w.heap.size w w' := by
  induction m with
  | zero => intro x va N w hx; omega
  | succ m ih =>
    intro x va N w hx hwf hA hN
    rw [esz_eq] at hx
    obtain ⟨oa, cap, rfl, hc1, hc2, hc3⟩ := hA.slice
    have HE := Lib.hid (exprOk_ref x)
    have hst := Lib.hid hwf.2.1
    go_enter Tryz.func158, Tryz.ntmps158
    go_wp2_with (go_at_call 175; refine (rbare_any x _ _ _ _).mono ?_; rintro e w1 ⟨rfl, hB1⟩; obtain ⟨hcl, hfr⟩ := bcell hB1; have hz := Below.after_lt hB1; have hB := Below.after hB1)
    have d0 := cell_past (o := .cells #[.int .i64 x.kind, .string (bareN x), .int .i16 (bareV x), .int .i64 (bareO x), .slice none 0 0, .int .i64 0] 40) (Below.fresh hB1 0 rfl) hz
    have d1 := cell_past (o := .cells #[.int .i64 x.kind, .string (bareN x), .int .i16 (bareV x), .int .i64 (bareO x), .slice none 0 0, .int .i64 0] 40) (Below.fresh hB1 1 rfl) hz
    have d2 := cell_past (o := .cells #[.int .i64 x.kind, .string (bareN x), .int .i16 (bareV x), .int .i64 (bareO x), .slice none 0 0, .int .i64 0] 40) (Below.fresh hB1 2 rfl) hz
    have d3 := cell_past (o := .cells #[.int .i64 x.kind, .string (bareN x), .int .i16 (bareV x), .int .i64 (bareO x), .slice none 0 0, .int .i64 0] 40) (Below.fresh hB1 3 rfl) hz
    have d4 := cell_past (o := .cells #[.int .i64 x.kind, .string (bareN x), .int .i16 (bareV x), .int .i64 (bareO x), .slice none 0 0, .int .i64 0] 40) (Below.fresh hB1 4 rfl) hz
    have f1 : (w1.alloc (.cells #[.int .i64 x.kind, .string (bareN x), .int .i16 (bareV x), .int .i64 (bareO x), .slice none 0 0, .int .i64 0] 40)).cell? ⟨w1.heap.size, 1, none⟩ = some (.string (bareN x)) := cell_first rfl
    have f2 : (w1.alloc (.cells #[.int .i64 x.kind, .string (bareN x), .int .i16 (bareV x), .int .i64 (bareO x), .slice none 0 0, .int .i64 0] 40)).cell? ⟨w1.heap.size, 2, none⟩ = some (.int .i16 (bareV x)) := cell_first rfl
    have f3 : (w1.alloc (.cells #[.int .i64 x.kind, .string (bareN x), .int .i16 (bareV x), .int .i64 (bareO x), .slice none 0 0, .int .i64 0] 40)).cell? ⟨w1.heap.size, 3, none⟩ = some (.int .i64 (bareO x)) := cell_first rfl
    have hW1 : Below w1.heap.size w1 (w1.alloc (.cells #[.int .i64 x.kind, .string (bareN x), .int .i16 (bareV x), .int .i64 (bareO x), .slice none 0 0, .int .i64 0] 40)) := (Below.refl _ _).alloc (Nat.le_refl _) _
    generalize hWW : w1.alloc (.cells #[.int .i64 x.kind, .string (bareN x), .int .i16 (bareV x), .int .i64 (bareO x), .slice none 0 0, .int .i64 0] 40) = W at *
    have hBW : Below w.heap.size w W := hB.trans (hW1.mono hB.size)
    have hlt0 : w.heap.size < W.heap.size := by have := hW1.size; omega
    clear hcl hfr hWW hB1 hW1
    have e0 := fun p : Later W => Later.cell d0 p
    have e1 := fun p : Later W => Later.cell d1 p
    have e2 := fun p : Later W => Later.cell d2 p
    have e3 := fun p : Later W => Later.cell d3 p
    have e4 := fun p : Later W => Later.cell d4 p
    have e5 := fun p : Later W => Later.cell f1 p
    have e6 := fun p : Later W => Later.cell f2 p
    have e7 := fun p : Later W => Later.cell f3 p
    by_cases hh : headP x
    case neg =>
      have hf : exprOk x = false := by rw [HE.out]; simp [hh]
      have HF := Lib.hid hf
      clear hf
      have hcs : (((x.args.length : Int) != refArity x.kind) = true) ∨ (((x.args.length : Int) != refArity x.kind) = false ∧ (x.name.toList == (bareN x).toList) = false) ∨
          (((x.args.length : Int) != refArity x.kind) = false ∧ (x.name.toList == (bareN x).toList) = true ∧ (x.value != bareV x) = true) ∨
          (((x.args.length : Int) != refArity x.kind) = false ∧ (x.name.toList == (bareN x).toList) = true ∧ (x.value != bareV x) = false ∧ (x.op != bareO x) = true) := by
        simp only [ba_beq, bne_iff_ne, bne_eq_false_iff_eq, decide_eq_true_eq, decide_eq_false_iff_not, ne_eq]
        unfold headP at hh
        by_cases a1 : (x.args.length : Int) = refArity x.kind <;> by_cases a2 : x.name = bareN x <;> by_cases a3 : x.value = bareV x <;> by_cases a4 : x.op = bareO x <;> simp [a1, a2, a3, a4] at hh ⊢
      clear hh
      rcases hcs with g1 | ⟨g1, g2⟩ | ⟨g1, g2, g3⟩ | ⟨g1, g2, g3, g4⟩
      all_goals
        refine wp_region_later mixed (by kernel_rfl) ?_
        repeat (go_big_quiet_step (exact Calls.later (arity_any _ _)))
        refine wpQuiet_nil ?_
        rintro W' ⟨p, hp⟩
        have hB' : Below W.heap.size W W' := hp ▸ p.h
        clear hp p
        go_wp2_with fail
        go_ret
        exact ⟨ret_bool HF.out.symm, hBW.trans (hB'.mono hBW.size)⟩
    case pos =>
      have g1 : ((x.args.length : Int) != refArity x.kind) = false := by simp [hh.1]
      have g2 : (x.name.toList == (bareN x).toList) = true := ba_eq hh.2.1
      have g3 : (x.value != bareV x) = false := by rw [bne_eq_false_iff_eq]; exact hh.2.2.1
      have g4 : (x.op != bareO x) = false := by rw [bne_eq_false_iff_eq]; exact hh.2.2.2
      have hE2 : exprOk x = (exprsOk x.args && kOk x) := by rw [HE.out]; simp [hh]
      have HE2 := Lib.hid hE2
      clear hE2 hh
      refine wp_region_later mixed (by kernel_rfl) ?_
      repeat (go_big_quiet_step (exact Calls.later (arity_any _ _)))
      refine wpQuiet_nil ?_
      rintro W' ⟨p, hp⟩
      have hB' : Below W.heap.size W W' := hp ▸ p.h
      clear hp p e0 e1 e2 e3 e4 e5 e6 e7 f1 f2 f3
      have c0 := (hB'.cell (p := ⟨w.heap.size, 0, none⟩) hlt0).trans d0
      have c1 := (hB'.cell (p := ⟨w.heap.size, 1, none⟩) hlt0).trans d1
      have c2 := (hB'.cell (p := ⟨w.heap.size, 2, none⟩) hlt0).trans d2
      have c3 := (hB'.cell (p := ⟨w.heap.size, 3, none⟩) hlt0).trans d3
      have c4 := (hB'.cell (p := ⟨w.heap.size, 4, none⟩) hlt0).trans d4
      clear d0 d1 d2 d3 d4
      have hBs := hB'.size
      have hBWs := hBW.size
      have hBt : Below w.heap.size w W' := hBW.trans (hB'.mono hBWs)
      have hA' := hA.lift (hBt.mono hN)
      clear hB hBW hB' hz
      go_wp2_with fail
      go_loopw [39] (fun i wr => ∃ k : Nat, k ≤ x.args.length ∧ i = .int .i64 k ∧ exprsOk (x.args.take k) = true ∧ Below W'.heap.size W' wr) (fun i _ => x.args.length - (intOf i).toNat)
      case atStart => exact ⟨0, Nat.zero_le _, rfl, rfl, Below.refl _ _⟩
      case round =>
        obtain ⟨k, hk, rfl, hok, hB2⟩ := hrel
        have HOK := Lib.hid hok
        clear hok
        have hB2s := hB2.size
        by_cases hlt : k < x.args.length
        · obtain ⟨y, b, off, vy, hy, rfl, hb, hywf, hsub, y0, y1, y2, y3, y4, y5⟩ := (hA'.lift (hB2.mono (by omega))).at hlt
          obtain ⟨oy, cy, rfl, _, _, _⟩ := hsub.slice
          have hmem := List.mem_of_getElem? hy
          have hle := mem_esz hmem
          have HS := Lib.hid (exprsOk_snoc hy)
          have hc := ih y (.slice oy y.args.length cy) N (wr.alloc (.cells #[.int .i64 y.kind, .string y.name, .int .i16 y.value, .int .i64 y.op, .slice oy y.args.length cy, .int .i64 y.pos] 40)) (by omega) hywf (hsub.kept (fun b hb => Below.heap_alloc _ _ _ (by omega))) (by simp; omega)
          cases hyo : exprOk y
          · rw [hyo] at hc
            have hf : exprOk x = false := by
              rw [HE2.out, exprsOk_all]
              have : x.args.all exprOk = false := by
                rw [List.all_eq_false]; exact ⟨y, hmem, by simp [hyo]⟩
              simp [this]
            have HF := Lib.hid hf
            have HC := Lib.hid hc
            clear hf hc hyo hy hmem
            go_wp2_with (go_at_call 158; refine HC.out.mono ?_; rintro e w3 ⟨rfl, hB3⟩)
            go_ret
            exact ⟨ret_bool HF.out.symm, hBt.trans ((hB2.mono (by omega)).trans ((Below.after hB3).mono (by omega)))⟩
          · rw [hyo] at hc
            have hn : exprsOk (x.args.take (k + 1)) = true := by rw [HS.out, HOK.out, hyo]; rfl
            have HNX := Lib.hid hn
            have HC := Lib.hid hc
            clear hn hc hyo hy hmem
            go_wp2_with (go_at_call 158; refine HC.out.mono ?_; rintro e w3 ⟨rfl, hB3⟩)
            go_roundw
            case rel => exact ⟨k + 1, by omega, by go_num, HNX.out, hB2.trans ((Below.after hB3).mono (by omega))⟩
            case measure => simp [intOf]; omega
        · have hk2 : k = x.args.length := by omega
          subst hk2
          have hall : exprOk x = kOk x := by rw [HE2.out]; have := HOK.out; rw [List.take_length] at this; rw [this]; rfl
          have HAll := Lib.hid hall
          clear hall
          have b0 := (hB2.cell (p := ⟨w.heap.size, 0, none⟩) (by have : w.heap.size < W'.heap.size := by omega
                                                                 exact this)).trans c0
          have b1 := (hB2.cell (p := ⟨w.heap.size, 1, none⟩) (by have : w.heap.size < W'.heap.size := by omega
                                                                 exact this)).trans c1
          have b2 := (hB2.cell (p := ⟨w.heap.size, 2, none⟩) (by have : w.heap.size < W'.heap.size := by omega
                                                                 exact this)).trans c2
          have b3 := (hB2.cell (p := ⟨w.heap.size, 3, none⟩) (by have : w.heap.size < W'.heap.size := by omega
                                                                 exact this)).trans c3
          clear c0 c1 c2 c3 c4
          have hfin : Below w.heap.size w wr := hBt.trans (hB2.mono (by omega))
          by_cases q1 : x.kind = 1
          · have t1 : (x.kind == 1) = true := beq_iff_eq.2 q1
            have hr : kOk x = decide (0 ≤ x.value) := by simp [kOk, q1]
            have HR := Lib.hid (HAll.out.trans hr)
            clear hr q1
            go_wp2_with fail
            go_ret
            exact ⟨ret_bool HR.out.symm, hfin⟩
          · have t1 : (x.kind == 1) = false := beq_eq_false_iff_ne.2 q1
            by_cases q5 : x.kind = 5
            · have t5 : (x.kind == 5) = true := beq_iff_eq.2 q5
              have hr : kOk x = ((x.op == 1) || (x.op == 2)) := by simp [kOk, q5]; rw [Bool.eq_iff_iff]; simp
              have HR := Lib.hid (HAll.out.trans hr)
              clear hr q1 q5
              go_wp2_with fail
              all_goals go_ret
              all_goals refine ⟨ret_bool ?_, hfin⟩
              all_goals rw [HR.out]
              all_goals (simp; try omega)
            · have t5 : (x.kind == 5) = false := beq_eq_false_iff_ne.2 q5
              by_cases q6 : x.kind = 6
              · have t6 : (x.kind == 6) = true := beq_iff_eq.2 q6
                have hr : kOk x = (decide (3 ≤ x.op) && decide (x.op ≤ 15)) := by simp [kOk, q6]
                have HR := Lib.hid (HAll.out.trans hr)
                clear hr q1 q5 q6
                go_wp2_with fail
                all_goals go_ret
                all_goals refine ⟨ret_bool ?_, hfin⟩
                all_goals rw [HR.out]
                all_goals (simp; try omega)
              · have t6 : (x.kind == 6) = false := beq_eq_false_iff_ne.2 q6
                have HR := Lib.hid (HAll.out.trans (kOk_eq x ⟨q1, q5, q6⟩))
                clear q1 q5 q6
                go_wp2_with (go_at_call 84; refine (Ident_any _ _ hst.out).mono ?_; rintro e w3 ⟨rfl, hB3⟩)
                go_ret
                exact ⟨ret_bool HR.out.symm, hfin.trans (hB3.mono hfin.size)⟩
end Go.Proofs.YtkfdnlfkomhmfaaGreatDoor
