/- ConstValue: what it answers. -/
import Derived.Test.YtkfdnlfkomhmfaaGreatDoorSmall
import Derived.Test.YtkfdnlfkomhmfaaGreatDoorWord
namespace Go.Proofs.YtkfdnlfkomhmfaaGreatDoor
open Go.RowKit
set_option linter.unusedVariables false
set_option linter.unusedSimpArgs false

def cun (op a : Int) : Int × Bool := ((wun op a).1, (wun op a).2 == 0)
def cbin (op a b : Int) : Int × Bool :=
  if op = 14 then (b2i (decide (a ≠ 0) && decide (b ≠ 0)), true) else if op = 15 then (b2i (decide (a ≠ 0) || decide (b ≠ 0)), true) else ((wbin op a b).1, (wbin op a b).2 == 0)
mutual
def constV (p : Prog) : Expr → Int × Bool
  | ⟨kind, name, value, op, args, _⟩ =>
    if kind = 1 then (value, true)
    else if kind = 2 then (if lookK (namesOf p) name = 1 then ((p.consts.getD (lookI (namesOf p) name).toNat default).value, true) else (0, false))
    else match constVs p args with
      | none => (0, false)
      | some vs => if kind = 5 ∧ vs.length = 1 then cun op (vs.getD 0 0) else if kind = 6 ∧ vs.length = 2 then cbin op (vs.getD 0 0) (vs.getD 1 0) else (0, false)
def constVs (p : Prog) : List Expr → Option (List Int)
  | [] => some []
  | x :: l => match constV p x with
    | (v, true) => (constVs p l).map (v :: ·)
    | (_, false) => none
end
theorem constV_eq (p : Prog) (x : Expr) : constV p x = if x.kind = 1 then (x.value, true)
    else if x.kind = 2 then (if lookK (namesOf p) x.name = 1 then ((p.consts.getD (lookI (namesOf p) x.name).toNat default).value, true) else (0, false))
    else match constVs p x.args with
      | none => (0, false)
      | some vs => if x.kind = 5 ∧ vs.length = 1 then cun x.op (vs.getD 0 0) else if x.kind = 6 ∧ vs.length = 2 then cbin x.op (vs.getD 0 0) (vs.getD 1 0) else (0, false) := by
  cases x; rw [constV]
theorem constVs_snoc (p : Prog) (l : List Expr) (x : Expr) : constVs p (l ++ [x]) = match constVs p l with
    | none => none
    | some vs => match constV p x with
      | (v, true) => some (vs ++ [v])
      | (_, false) => none := by
  induction l with
  | nil =>
    simp only [List.nil_append, constVs]
    rcases constV p x with ⟨v, _ | _⟩ <;> rfl
  | cons y l ih =>
    simp only [List.cons_append, constVs, ih]
    rcases constV p y with ⟨v, _ | _⟩
    · rfl
    · cases constVs p l with
      | none => rfl
      | some vs => rcases constV p x with ⟨u, _ | _⟩ <;> rfl
theorem constVs_len {p : Prog} : ∀ {l : List Expr} {vs : List Int}, constVs p l = some vs → vs.length = l.length := by
  intro l
  induction l with
  | nil => intro vs h; simp only [constVs, Option.some.injEq] at h; subst h; rfl
  | cons x l ih =>
    intro vs h
    simp only [constVs] at h
    rcases hx : constV p x with ⟨v, _ | _⟩
    · rw [hx] at h; simp at h
    · rw [hx] at h
      cases hl : constVs p l with
      | none => rw [hl] at h; simp at h
      | some us => rw [hl] at h; simp at h; subst h; simp [ih hl]
theorem i16_b2i (b : Bool) : I16 (b2i b) := by cases b <;> (unfold I16 b2i; simp)
theorem cun_i16 (op a : Int) : I16 (cun op a).1 := by
  unfold cun wun
  split
  · exact w16_bd _
  · split
    · exact i16_b2i _
    · unfold I16; simp
theorem cbin_i16 {op a b : Int} (ha : I16 a) : I16 (cbin op a b).1 := by
  unfold cbin
  split
  · exact i16_b2i _
  · split
    · exact i16_b2i _
    · show I16 (wbin op a b).1
      unfold wbin
      repeat' split
      all_goals first | exact w16_bd _ | exact i16_b2i _ | (unfold I16; simp; done) | skip
      all_goals exact tmod16 ha
end Go.Proofs.YtkfdnlfkomhmfaaGreatDoor
