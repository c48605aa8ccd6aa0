/- Well-formed expressions: what the program's ast asks of one node. -/
import Derived.Test.YtkfdnlfkomhmfaaGreatDoorIdent
import Derived.Test.YtkfdnlfkomhmfaaGreatDoorFunc
import Derived.Handy
import Derived.Shelf.Abstract
import Derived.Test.YtkfdnlfkomhmfaaGreatDoorSize
namespace Go.Proofs.YtkfdnlfkomhmfaaGreatDoor
open Go.RowKit
set_option linter.unusedVariables false
set_option linter.unusedSimpArgs false

def emp : ByteArray := ⟨#[]⟩
def arityOf (kind : Int) : Int := if kind = 3 ∨ kind = 5 then 1 else if kind = 6 then 2 else 0
def plainP (x : Expr) : Prop :=
  (x.kind = 1 ∧ 0 ≤ x.value ∧ x.name = emp ∧ x.op = 0) ∨ ((x.kind = 2 ∨ x.kind = 3 ∨ x.kind = 4) ∧ ident x.name = true ∧ x.value = 0 ∧ x.op = 0) ∨
  (x.kind = 5 ∧ 1 ≤ x.op ∧ x.op ≤ 2 ∧ x.name = emp ∧ x.value = 0) ∨ (x.kind = 6 ∧ 3 ≤ x.op ∧ x.op ≤ 15 ∧ x.name = emp ∧ x.value = 0)
instance (x : Expr) : Decidable (plainP x) := by unfold plainP; exact inferInstance
def plainB (x : Expr) : Bool := decide (plainP x)

theorem abare_any (x : Expr) (oa : Option Addr) (n cap : Nat) (w : World) :
    Calls Tryz.prog 187 #[.agg #[.int .i64 x.kind, .string x.name, .int .i16 x.value, .int .i64 x.op, .slice oa n cap, .int .i64 x.pos]] w fun e w' =>
      e = .returned (.agg #[.int .i64 x.kind, .string x.name, .int .i16 x.value, .int .i64 x.op, .slice none 0 0, .int .i64 0]) ∧ Below w.heap.size w w' := by
  go_enter Tryz.func187, Tryz.ntmps187
  go_wp2
  exact bodyPost_ret (v := .agg #[.int .i64 x.kind, .string x.name, .int .i16 x.value, .int .i64 x.op, .slice none 0 0, .int .i64 0]) (by simp [results, Tryz.results187, go_sem]) rfl ⟨rfl, by go_grown⟩

theorem same_any (b : Nat) (k v o : Int) (s : ByteArray) (k' v' o' p' : Int) (s' : ByteArray) (w : World) (c0 : w.cell? ⟨b, 0, none⟩ = some (.int .i64 k)) (c1 : w.cell? ⟨b, 1, none⟩ = some (.string s)) (c2 : w.cell? ⟨b, 2, none⟩ = some (.int .i16 v)) (c3 : w.cell? ⟨b, 3, none⟩ = some (.int .i64 o)) :
    Calls Tryz.prog 188 #[.agg #[.int .i64 k', .string s', .int .i16 v', .int .i64 o', .slice none 0 0, .int .i64 p'], .pointer (some ⟨b, 0, none⟩)] w fun e w' =>
      e = .returned (.bool (decide (k = k' ∧ s = s' ∧ v = v' ∧ o = o'))) ∧ Below w.heap.size w w' := by
  have hb : b < w.heap.size := by
    unfold World.cell? at c0
    cases ho : w.heap[b]? with
    | none => simp [ho] at c0
    | some o => exact (Array.getElem?_eq_some_iff.1 ho).1
  by_cases h1 : k = k'
  · have g1 : (k == k') = true := by simp [h1]
    by_cases h2 : s = s'
    · have g2 := ba_eq h2
      by_cases h3 : v = v'
      · have g3 : (v == v') = true := by simp [h3]
        have H := Lib.hid (And.intro h1 (And.intro h2 h3))
        clear h1 h2 h3
        go_enter Tryz.func188, Tryz.ntmps188
        go_wp2
        all_goals go_ret
        all_goals refine ⟨ret_bool ?_, by go_grown⟩
        all_goals obtain ⟨h1, h2, h3⟩ := H.out
        all_goals simp [h1, h2, h3]
        all_goals rfl
      · have g3 : (v == v') = false := by simp [h3]
        have H := Lib.hid h3
        clear h1 h2 h3
        go_enter Tryz.func188, Tryz.ntmps188
        go_wp2
        go_ret
        exact ⟨ret_bool (decide_eq_false fun h => H.out h.2.2.1).symm, by go_grown⟩
    · have g2 := ba_ne h2
      have H := Lib.hid h2
      clear h1 h2
      go_enter Tryz.func188, Tryz.ntmps188
      go_wp2
      go_ret
      exact ⟨ret_bool (decide_eq_false fun h => H.out h.2.1).symm, by go_grown⟩
  · have g1 : (k == k') = false := by simp [h1]
    have H := Lib.hid h1
    clear h1
    go_enter Tryz.func188, Tryz.ntmps188
    go_wp2
    go_ret
    exact ⟨ret_bool (decide_eq_false fun h => H.out h.1).symm, by go_grown⟩

theorem ret_two {k : IntKind} {a b : Int} {c d : Bool} (h : a = b) (h' : c = d) : Ending.returned (.tuple #[.int k a, .bool c]) = .returned (.tuple #[.int k b, .bool d]) := by rw [h, h']

set_option maxHeartbeats 4000000 in
theorem plainExpr_any (x : Expr) (oa : Option Addr) (n cap : Nat) (w : World) (hw : x.Wf) (hT : SpaceTab w) :
    Calls Tryz.prog 167 #[.agg #[.int .i64 x.kind, .string x.name, .int .i16 x.value, .int .i64 x.op, .slice oa n cap, .int .i64 x.pos]] w fun e w' =>
      ∃ a : Int, e = .returned (.tuple #[.int .i64 a, .bool (plainB x)]) ∧ (plainB x = true → a = arityOf x.kind) ∧ Below w.heap.size w w' := by
  have hst := hw.2.1
  have HT := Lib.hid hT
  clear hT
  obtain ⟨kind, name, value, op, args, pos⟩ := x
  simp only at hst ⊢
  have Hst := Lib.hid hst
  clear hst hw
  have hcl : kind = 1 ∨ kind = 2 ∨ kind = 4 ∨ kind = 3 ∨ kind = 5 ∨ kind = 6 ∨ ((kind == 1) = false ∧ (kind == 2) = false ∧ (kind == 4) = false ∧ (kind == 3) = false ∧ (kind == 5) = false ∧ (kind == 6) = false) := by
    simp only [beq_eq_false_iff_ne, ne_eq]; omega
  rcases hcl with rfl | rfl | rfl | rfl | rfl | rfl | ⟨g1, g2, g3, g4, g5, g6⟩
  · by_cases hv : 0 ≤ value
    · go_enter Tryz.func167, Tryz.ntmps167
      go_wp2_with (first | (go_at_call 187; refine (abare_any ⟨1, name, value, op, args, pos⟩ _ _ _ _).mono ?_; rintro e w1 ⟨rfl, hB1⟩; obtain ⟨hcl, hfr⟩ := bcell hB1; have hz := Below.after_lt hB1; have hB := Below.after hB1) | (go_at_call 188; refine (same_any _ 1 value op name _ _ _ _ _ _ (by simp [go_sem]) (by simp [go_sem]) (by simp [go_sem]) (by simp [go_sem])).mono ?_; rintro e w2 ⟨rfl, hB2⟩; have hB3 := hB.trans ((Below.after hB2).mono hB.size)))
      go_ret2
      exact ⟨0, ret_two rfl (by simp [plainB, plainP, emp, hv]), (fun _ => rfl), hB3⟩
    · go_enter Tryz.func167, Tryz.ntmps167
      go_wp2_with (first | (go_at_call 187; refine (abare_any ⟨1, name, value, op, args, pos⟩ _ _ _ _).mono ?_; rintro e w1 ⟨rfl, hB1⟩; obtain ⟨hcl, hfr⟩ := bcell hB1; have hz := Below.after_lt hB1; have hB := Below.after hB1) | (go_at_call 188; refine (same_any _ 1 value op name _ _ _ _ _ _ (by simp [go_sem]) (by simp [go_sem]) (by simp [go_sem]) (by simp [go_sem])).mono ?_; rintro e w2 ⟨rfl, hB2⟩; have hB3 := hB.trans ((Below.after hB2).mono hB.size)))
      go_ret2
      exact ⟨0, ret_two rfl (by simp [plainB, plainP]; intro h; omega), (fun _ => rfl), by go_grown⟩
  · have HI := @identifier_any name
    cases hid : ident name
    · rw [hid] at HI
      have hf : plainB ⟨2, name, value, op, args, pos⟩ = false := by simp [plainB, plainP, hid]
      have HF := Lib.hid hf
      clear hf hid
      go_enter Tryz.func167, Tryz.ntmps167
      go_wp2_with (first | (go_at_call 187; refine (abare_any ⟨2, name, value, op, args, pos⟩ _ _ _ _).mono ?_; rintro e w1 ⟨rfl, hB1⟩; obtain ⟨hcl, hfr⟩ := bcell hB1; have hz := Below.after_lt hB1; have hB := Below.after hB1) | (go_at_call 58; refine (HI _ Hst.out (HT.out.later (by go_grown))).mono ?_; rintro e w3 ⟨rfl, hB3a⟩; obtain ⟨hcl3, hfr3⟩ := bcell hB3a; have hz3 := Below.after_lt hB3a; clear HI; have hB3 := hB.trans ((Below.after hB3a).mono hB.size)))
      go_ret2
      exact ⟨0, ret_two rfl HF.out.symm, (fun _ => rfl), hB3⟩
    · rw [hid] at HI
      have hf : plainB ⟨2, name, value, op, args, pos⟩ = decide (value = 0 ∧ op = 0) := by simp [plainB, plainP, hid]
      have HF := Lib.hid hf
      clear hf hid
      go_enter Tryz.func167, Tryz.ntmps167
      go_wp2_with (first | (go_at_call 187; refine (abare_any ⟨2, name, value, op, args, pos⟩ _ _ _ _).mono ?_; rintro e w1 ⟨rfl, hB1⟩; obtain ⟨hcl, hfr⟩ := bcell hB1; have hz := Below.after_lt hB1; have hB := Below.after hB1) | (go_at_call 58; refine (HI _ Hst.out (HT.out.later (by go_grown))).mono ?_; rintro e w3 ⟨rfl, hB3a⟩; obtain ⟨hcl3, hfr3⟩ := bcell hB3a; have hz3 := Below.after_lt hB3a; clear HI; have hB3 := hB.trans ((Below.after hB3a).mono hB.size)) | (go_at_call 188; refine (same_any _ 2 value op name _ _ _ _ _ _ (by rw [hB3a.cell (by simp)]; simp [go_sem]) (by rw [hB3a.cell (by simp)]; simp [go_sem]) (by rw [hB3a.cell (by simp)]; simp [go_sem]) (by rw [hB3a.cell (by simp)]; simp [go_sem])).mono ?_; rintro e w2 ⟨rfl, hB2⟩; have hB4 := hB3.trans (hB2.mono hB3.size)))
      go_ret2
      exact ⟨0, ret_two rfl (by rw [HF.out]; simp), (fun _ => rfl), hB4⟩
  · have HI := @identifier_any name
    cases hid : ident name
    · rw [hid] at HI
      have hf : plainB ⟨4, name, value, op, args, pos⟩ = false := by simp [plainB, plainP, hid]
      have HF := Lib.hid hf
      clear hf hid
      go_enter Tryz.func167, Tryz.ntmps167
      go_wp2_with (first | (go_at_call 187; refine (abare_any ⟨4, name, value, op, args, pos⟩ _ _ _ _).mono ?_; rintro e w1 ⟨rfl, hB1⟩; obtain ⟨hcl, hfr⟩ := bcell hB1; have hz := Below.after_lt hB1; have hB := Below.after hB1) | (go_at_call 58; refine (HI _ Hst.out (HT.out.later (by go_grown))).mono ?_; rintro e w3 ⟨rfl, hB3a⟩; obtain ⟨hcl3, hfr3⟩ := bcell hB3a; have hz3 := Below.after_lt hB3a; clear HI; have hB3 := hB.trans ((Below.after hB3a).mono hB.size)))
      go_ret2
      exact ⟨0, ret_two rfl HF.out.symm, (fun _ => rfl), hB3⟩
    · rw [hid] at HI
      have hf : plainB ⟨4, name, value, op, args, pos⟩ = decide (value = 0 ∧ op = 0) := by simp [plainB, plainP, hid]
      have HF := Lib.hid hf
      clear hf hid
      go_enter Tryz.func167, Tryz.ntmps167
      go_wp2_with (first | (go_at_call 187; refine (abare_any ⟨4, name, value, op, args, pos⟩ _ _ _ _).mono ?_; rintro e w1 ⟨rfl, hB1⟩; obtain ⟨hcl, hfr⟩ := bcell hB1; have hz := Below.after_lt hB1; have hB := Below.after hB1) | (go_at_call 58; refine (HI _ Hst.out (HT.out.later (by go_grown))).mono ?_; rintro e w3 ⟨rfl, hB3a⟩; obtain ⟨hcl3, hfr3⟩ := bcell hB3a; have hz3 := Below.after_lt hB3a; clear HI; have hB3 := hB.trans ((Below.after hB3a).mono hB.size)) | (go_at_call 188; refine (same_any _ 4 value op name _ _ _ _ _ _ (by rw [hB3a.cell (by simp)]; simp [go_sem]) (by rw [hB3a.cell (by simp)]; simp [go_sem]) (by rw [hB3a.cell (by simp)]; simp [go_sem]) (by rw [hB3a.cell (by simp)]; simp [go_sem])).mono ?_; rintro e w2 ⟨rfl, hB2⟩; have hB4 := hB3.trans (hB2.mono hB3.size)))
      go_ret2
      exact ⟨0, ret_two rfl (by rw [HF.out]; simp), (fun _ => rfl), hB4⟩
  · have HI := @identifier_any name
    cases hid : ident name
    · rw [hid] at HI
      have hf : plainB ⟨3, name, value, op, args, pos⟩ = false := by simp [plainB, plainP, hid]
      have HF := Lib.hid hf
      clear hf hid
      go_enter Tryz.func167, Tryz.ntmps167
      go_wp2_with (first | (go_at_call 187; refine (abare_any ⟨3, name, value, op, args, pos⟩ _ _ _ _).mono ?_; rintro e w1 ⟨rfl, hB1⟩; obtain ⟨hcl, hfr⟩ := bcell hB1; have hz := Below.after_lt hB1; have hB := Below.after hB1) | (go_at_call 58; refine (HI _ Hst.out (HT.out.later (by go_grown))).mono ?_; rintro e w3 ⟨rfl, hB3a⟩; obtain ⟨hcl3, hfr3⟩ := bcell hB3a; have hz3 := Below.after_lt hB3a; clear HI; have hB3 := hB.trans ((Below.after hB3a).mono hB.size)))
      go_ret2
      exact ⟨1, ret_two rfl HF.out.symm, (fun _ => rfl), hB3⟩
    · rw [hid] at HI
      have hf : plainB ⟨3, name, value, op, args, pos⟩ = decide (value = 0 ∧ op = 0) := by simp [plainB, plainP, hid]
      have HF := Lib.hid hf
      clear hf hid
      go_enter Tryz.func167, Tryz.ntmps167
      go_wp2_with (first | (go_at_call 187; refine (abare_any ⟨3, name, value, op, args, pos⟩ _ _ _ _).mono ?_; rintro e w1 ⟨rfl, hB1⟩; obtain ⟨hcl, hfr⟩ := bcell hB1; have hz := Below.after_lt hB1; have hB := Below.after hB1) | (go_at_call 58; refine (HI _ Hst.out (HT.out.later (by go_grown))).mono ?_; rintro e w3 ⟨rfl, hB3a⟩; obtain ⟨hcl3, hfr3⟩ := bcell hB3a; have hz3 := Below.after_lt hB3a; clear HI; have hB3 := hB.trans ((Below.after hB3a).mono hB.size)) | (go_at_call 188; refine (same_any _ 3 value op name _ _ _ _ _ _ (by rw [hB3a.cell (by simp)]; simp [go_sem]) (by rw [hB3a.cell (by simp)]; simp [go_sem]) (by rw [hB3a.cell (by simp)]; simp [go_sem]) (by rw [hB3a.cell (by simp)]; simp [go_sem])).mono ?_; rintro e w2 ⟨rfl, hB2⟩; have hB4 := hB3.trans (hB2.mono hB3.size)))
      go_ret2
      exact ⟨1, ret_two rfl (by rw [HF.out]; simp), (fun _ => rfl), hB4⟩
  · by_cases hv : 1 ≤ op ∧ op ≤ 2
    · obtain ⟨hv1, hv2⟩ := hv
      go_enter Tryz.func167, Tryz.ntmps167
      go_wp2_with (first | (go_at_call 187; refine (abare_any ⟨5, name, value, op, args, pos⟩ _ _ _ _).mono ?_; rintro e w1 ⟨rfl, hB1⟩; obtain ⟨hcl, hfr⟩ := bcell hB1; have hz := Below.after_lt hB1; have hB := Below.after hB1) | (go_at_call 188; refine (same_any _ 5 value op name _ _ _ _ _ _ (by simp [go_sem]) (by simp [go_sem]) (by simp [go_sem]) (by simp [go_sem])).mono ?_; rintro e w2 ⟨rfl, hB2⟩; have hB3 := hB.trans ((Below.after hB2).mono hB.size)))
      go_ret2
      exact ⟨1, ret_two rfl (by simp [plainB, plainP, emp, hv1, hv2]), (fun _ => rfl), hB3⟩
    · have hf : plainB ⟨5, name, value, op, args, pos⟩ = false := by
        simp only [plainB, plainP]; simp; omega
      have HF := Lib.hid hf
      clear hf
      go_enter Tryz.func167, Tryz.ntmps167
      go_wp2_with (first | (go_at_call 187; refine (abare_any ⟨5, name, value, op, args, pos⟩ _ _ _ _).mono ?_; rintro e w1 ⟨rfl, hB1⟩; obtain ⟨hcl, hfr⟩ := bcell hB1; have hz := Below.after_lt hB1; have hB := Below.after hB1) | (go_at_call 188; refine (same_any _ 5 value op name _ _ _ _ _ _ (by simp [go_sem]) (by simp [go_sem]) (by simp [go_sem]) (by simp [go_sem])).mono ?_; rintro e w2 ⟨rfl, hB2⟩; have hB3 := hB.trans ((Below.after hB2).mono hB.size)))
      all_goals (go_ret2; exact ⟨1, ret_two rfl HF.out.symm, (fun _ => rfl), by go_grown⟩)
  · by_cases hv : 3 ≤ op ∧ op ≤ 15
    · obtain ⟨hv1, hv2⟩ := hv
      go_enter Tryz.func167, Tryz.ntmps167
      go_wp2_with (first | (go_at_call 187; refine (abare_any ⟨6, name, value, op, args, pos⟩ _ _ _ _).mono ?_; rintro e w1 ⟨rfl, hB1⟩; obtain ⟨hcl, hfr⟩ := bcell hB1; have hz := Below.after_lt hB1; have hB := Below.after hB1) | (go_at_call 188; refine (same_any _ 6 value op name _ _ _ _ _ _ (by simp [go_sem]) (by simp [go_sem]) (by simp [go_sem]) (by simp [go_sem])).mono ?_; rintro e w2 ⟨rfl, hB2⟩; have hB3 := hB.trans ((Below.after hB2).mono hB.size)))
      go_ret2
      exact ⟨2, ret_two rfl (by simp [plainB, plainP, emp, hv1, hv2]), (fun _ => rfl), hB3⟩
    · have hf : plainB ⟨6, name, value, op, args, pos⟩ = false := by
        simp only [plainB, plainP]; simp; omega
      have HF := Lib.hid hf
      clear hf
      go_enter Tryz.func167, Tryz.ntmps167
      go_wp2_with (first | (go_at_call 187; refine (abare_any ⟨6, name, value, op, args, pos⟩ _ _ _ _).mono ?_; rintro e w1 ⟨rfl, hB1⟩; obtain ⟨hcl, hfr⟩ := bcell hB1; have hz := Below.after_lt hB1; have hB := Below.after hB1) | (go_at_call 188; refine (same_any _ 6 value op name _ _ _ _ _ _ (by simp [go_sem]) (by simp [go_sem]) (by simp [go_sem]) (by simp [go_sem])).mono ?_; rintro e w2 ⟨rfl, hB2⟩; have hB3 := hB.trans ((Below.after hB2).mono hB.size)))
      all_goals (go_ret2; exact ⟨2, ret_two rfl HF.out.symm, (fun _ => rfl), by go_grown⟩)
  · go_enter Tryz.func167, Tryz.ntmps167
    go_wp2_with (go_at_call 187; refine (abare_any ⟨kind, name, value, op, args, pos⟩ _ _ _ _).mono ?_; rintro e w1 ⟨rfl, hB1⟩; obtain ⟨hcl, hfr⟩ := bcell hB1; have hz := Below.after_lt hB1; have hB := Below.after hB1)
    go_ret2
    have hf : plainB ⟨kind, name, value, op, args, pos⟩ = false := by
      simp only [beq_eq_false_iff_ne, ne_eq] at g1 g2 g3 g4 g5 g6
      simp [plainB, plainP, g1, g2, g3, g4, g5, g6]
    exact ⟨0, ret_two rfl hf.symm, (fun h => absurd (hf.symm.trans h) (by decide)), by go_grown⟩

/-! ### Well-formed expressions -/
mutual
def exprOk : Expr → Bool
  | ⟨kind, name, value, op, args, pos⟩ => plainB ⟨kind, name, value, op, args, pos⟩ && decide ((args.length : Int) = arityOf kind) && exprsOk args
def exprsOk : List Expr → Bool
  | [] => true
  | x :: l => exprOk x && exprsOk l
end
theorem exprOk_eq (x : Expr) : exprOk x = (plainB x && decide ((x.args.length : Int) = arityOf x.kind) && exprsOk x.args) := by cases x; simp [exprOk]
theorem exprsOk_all (l : List Expr) : exprsOk l = l.all exprOk := by
  induction l with
  | nil => rfl
  | cons x l ih => simp [exprsOk, ih]
theorem exprsOk_any (l : List Expr) : exprsOk l = !(l.any fun x => !exprOk x) := by
  rw [exprsOk_all]
  induction l with
  | nil => rfl
  | cons x l ih => simp [ih]

theorem mem_esz {l : List Expr} {x : Expr} (h : x ∈ l) : esz x ≤ eszs l := by
  induction l with
  | nil => cases h
  | cons y l ih =>
    rcases List.mem_cons.1 h with rfl | h
    · simp [eszs]
    · have := ih h; simp [eszs]; omega

set_option maxHeartbeats 1000000 in
theorem wellFormed_any (m : Nat) : ∀ (x : Expr) (va : Value) (N : Nat) (w : World), esz x < m → x.Wf → ExprsAt N w va x.args → N ≤ w.heap.size → SpaceTab w →
    Calls Tryz.prog 144 #[.agg #[.int .i64 x.kind, .string x.name, .int .i16 x.value, .int .i64 x.op, va, .int .i64 x.pos]] w fun e w' => e = .returned (.bool (exprOk x)) ∧ Below w.heap.size w w' := by
  induction m with
  | zero => intro x va N w hx; omega
  | succ m ih =>
    intro x va N w hx hwf hA hN hT
    rw [esz_eq] at hx
    obtain ⟨oa, cap, rfl, hc1, hc2, hc3⟩ := hA.slice
    have heq := exprOk_eq x
    have HE := Lib.hid heq
    have HT := Lib.hid hT
    clear heq hT
    have eg : ∀ args w, (callFunc 168 args).run Tryz.prog w = .ok (.enter 168 args) w := enters_of Tryz.func168 (by kernel_rfl) rfl
    -- the function literal that negates
    have HP : ∀ W0, Below w.heap.size w W0 → PredE 168 #[] N W0 x.args (fun y => !exprOk y) := by
      intro W0 hW0 y vy W hy hywf hBW hyA
      obtain ⟨oy, cy, rfl, _, _, _⟩ := hyA.slice
      have hle := mem_esz hy
      have hTW := (HT.out.later hW0).later hBW
      have H1 := Lib.hid hTW
      clear hTW
      go_enter Tryz.func168, Tryz.ntmps168
      go_wp2_with (go_at_call 144; refine (ih y _ N _ (by omega) hywf (hyA.kept (fun b hb => Below.heap_alloc _ _ _ (by have := hW0.size; have := hBW.size; omega))) (by have := hW0.size; have := hBW.size; simp; omega) (H1.out.later (by go_grown))).mono ?_; rintro e w1 ⟨rfl, hB1⟩)
      go_ret
      exact ⟨rfl, Below.after hB1⟩
    have HPH := Lib.hid HP
    clear HP
    cases hp : plainB x
    · have hf : exprOk x = false := by rw [HE.out, hp]; rfl
      have HF := Lib.hid hf
      have HPL := Lib.hid hp
      clear hp hf
      go_enter Tryz.func144, Tryz.ntmps144
      go_wp2_with (go_at_call 167; refine (plainExpr_any x _ _ _ _ hwf (HT.out.later (by go_grown))).mono ?_; rintro e w1 ⟨a, rfl, ha, hB1⟩; rw [HPL.out] at ha ⊢; clear ha)
      go_ret
      exact ⟨ret_bool HF.out.symm, Below.after hB1⟩
    · have HPL := Lib.hid hp
      clear hp
      by_cases hl : (x.args.length : Int) = arityOf x.kind
      · have hf : exprOk x = !(x.args.any fun y => !exprOk y) := by rw [HE.out, HPL.out, exprsOk_any]; simp [hl]
        have HF := Lib.hid hf
        have HL := Lib.hid hl
        clear hf hl
        go_enter Tryz.func144, Tryz.ntmps144
        go_wp2_with (first
          | (go_at_call 167; refine (plainExpr_any x _ _ _ _ hwf (HT.out.later (by go_grown))).mono ?_; rintro e w1 ⟨a, rfl, ha, hB1⟩; rw [HPL.out] at ha ⊢; obtain rfl := ha rfl; clear ha; obtain ⟨hcl, hfr⟩ := bcell hB1; have hz := Below.after_lt hB1; have hB := Below.after hB1; have hlb : ((x.args.length : Int) == arityOf x.kind) = true := beq_iff_eq.2 HL.out)
          | (go_at_call 142; refine (ContainsFuncE_any _ #[] eg N _ _ _ _ (hA.lift (hB.mono hN)) (by omega) (HPH.out _ hB)).mono ?_; rintro e w2 ⟨rfl, hB2⟩))
        go_ret
        exact ⟨ret_bool HF.out.symm, hB.trans (hB2.mono hB.size)⟩
      · have hf : exprOk x = false := by rw [HE.out]; simp [hl]
        have HF := Lib.hid hf
        have HL := Lib.hid hl
        clear hf hl
        go_enter Tryz.func144, Tryz.ntmps144
        go_wp2_with (go_at_call 167; refine (plainExpr_any x _ _ _ _ hwf (HT.out.later (by go_grown))).mono ?_; rintro e w1 ⟨a, rfl, ha, hB1⟩; rw [HPL.out] at ha ⊢; obtain rfl := ha rfl; clear ha; obtain ⟨hcl, hfr⟩ := bcell hB1; have hz := Below.after_lt hB1; have hB := Below.after hB1; have hlb : ((x.args.length : Int) == arityOf x.kind) = false := beq_eq_false_iff_ne.2 HL.out)
        go_ret
        exact ⟨ret_bool HF.out.symm, hB⟩
end Go.Proofs.YtkfdnlfkomhmfaaGreatDoor
