/- Statements as rows of cells: a slice of statements copied by append. The law CheckUnion: it answers true. -/
import Derived.Test.YtkfdnlfkomhmfaaGreatDoorApp
import Derived.Test.YtkfdnlfkomhmfaaGreatDoorOwn
import Derived.Test.YtkfdnlfkomhmfaaGreatDoorExprs
import Derived.Test.YtkfdnlfkomhmfaaGreatDoorLawA
namespace Go.Proofs.YtkfdnlfkomhmfaaGreatDoor
open Go.RowKit
set_option linter.unusedVariables false
set_option linter.unusedSimpArgs false

/-- a statement with the slices that its cells hold -/
structure RS where
  s : Stmt
  oa : Option Addr
  na : Nat
  ca : Nat
  ob : Option Addr
  nb : Nat
  cb : Nat
  oe : Option Addr
  ne : Nat
  ce : Nat
instance : Inhabited RS := ⟨⟨default, none, 0, 0, none, 0, 0, none, 0, 0⟩⟩
def RS.cells (x : RS) : List Value := x.s.cells (.slice x.oa x.na x.ca) (.slice x.ob x.nb x.cb) (.slice x.oe x.ne x.ce)
theorem RS.len (x : RS) : x.cells.length = 7 := rfl
theorem RS.one (x : RS) : ∀ u ∈ x.cells, u.oneCell' = true := by
  intro u hu
  simp [RS.cells, Stmt.cells] at hu
  rcases hu with rfl | rfl | rfl | rfl | rfl | rfl | rfl <;> rfl
def RS.Ok (N : Nat) (w : World) (x : RS) : Prop := x.s.Wf ∧ ExprsAt N w (.slice x.oa x.na x.ca) x.s.args ∧ StmtsAt N w (.slice x.ob x.nb x.cb) x.s.body ∧ StmtsAt N w (.slice x.oe x.ne x.ce) x.s.els
theorem RS.Ok.lift {N : Nat} {w w' : World} {x : RS} (h : x.Ok N w) (hb : Below N w w') : x.Ok N w' := ⟨h.1, h.2.1.lift hb, h.2.2.1.lift hb, h.2.2.2.lift hb⟩
theorem list_of2 {β : Type} [Inhabited β] (Q : Nat → β → Prop) : ∀ n : Nat, (∀ i, i < n → ∃ x, Q i x) → ∃ l : List β, l.length = n ∧ ∀ i, i < n → Q i (l.getD i default) := by
  intro n
  induction n with
  | zero => intro _; exact ⟨[], rfl, fun i hi => by omega⟩
  | succ n ih =>
    intro h
    obtain ⟨l, h1, h2⟩ := ih fun i hi => h i (by omega)
    obtain ⟨x, hx⟩ := h n (by omega)
    refine ⟨l ++ [x], by simp [h1], fun i hi => ?_⟩
    by_cases hn : i < n
    · have := h2 i hn
      rwa [show (l ++ [x]).getD i default = l.getD i default by simp [List.getD, List.getElem?_append_left (by omega : i < l.length)]]
    · obtain rfl : i = n := by omega
      rwa [show (l ++ [x]).getD i default = x by simp [List.getD, ← h1]]

theorem StmtsAt.rich {N : Nat} {w : World} {v : Value} {l : List Stmt} (h : StmtsAt N w v l) : ∃ L : List RS, L.map (·.s) = l ∧ FlatAt RS.cells 7 N w v L ∧ ∀ x ∈ L, x.Ok N w := by
  cases h with
  | mk _ _ va vb ve h wf h1 h2 h3 =>
    obtain ⟨L, hL, hQ⟩ := list_of2 (fun i (x : RS) => x.s = l.getD i default ∧ va i = .slice x.oa x.na x.ca ∧ vb i = .slice x.ob x.nb x.cb ∧ ve i = .slice x.oe x.ne x.ce) l.length fun i hi => by
      obtain ⟨oa, ca, e1, _⟩ := (h1 i hi).slice
      obtain ⟨ob, cb, e2, _⟩ := (h2 i hi).slice
      obtain ⟨oe, ce, e3, _⟩ := (h3 i hi).slice
      exact ⟨⟨l.getD i default, oa, _, ca, ob, _, cb, oe, _, ce⟩, rfl, e1, e2, e3⟩
    have hcs : ∀ i, i < l.length → RS.cells (L.getD i default) = (l.getD i default).cells (va i) (vb i) (ve i) := fun i hi => by
      obtain ⟨q1, q2, q3, q4⟩ := hQ i hi
      rw [RS.cells, q1, q2, q3, q4]
    refine ⟨L, ?_, ?_, ?_⟩
    · apply List.ext_getElem
      · simp [hL]
      · intro i hi1 hi2
        have := (hQ i hi2).1
        have hiL : i < L.length := by omega
        simp [List.getD, hi2, hiL] at this
        simpa using this
    · obtain ⟨oa, cap, e, a1, a2, a3, a4⟩ := h
      refine ⟨oa, cap, by rw [hL]; exact e, by rw [hL]; exact a1, a2, by rw [hL]; exact a3, fun h0 => ?_⟩
      obtain ⟨b, off, e2, hb, hc⟩ := a4 (by rw [← hL]; exact h0)
      exact ⟨b, off, e2, hb, fun i hi => by show (RS.cells (L.getD i default)).length = 7 ∧ CellsAt w b (off + i * 7) (RS.cells (L.getD i default)); rw [hcs i (by omega)]; exact hc i (by omega)⟩
    · intro x hx
      obtain ⟨i, hi, rfl⟩ := List.mem_iff_getElem.1 hx
      have hil : i < l.length := by omega
      obtain ⟨q1, q2, q3, q4⟩ := hQ i hil
      have e : L.getD i default = L[i] := by simp [List.getD, hi]
      rw [e] at q1 q2 q3 q4
      refine ⟨by rw [q1]; exact wf i hil, ?_, ?_, ?_⟩
      · rw [q1, ← q2]; exact h1 i hil
      · rw [q1, ← q3]; exact h2 i hil
      · rw [q1, ← q4]; exact h3 i hil

theorem RS.stmts {N : Nat} {w : World} {v : Value} {L : List RS} (h : FlatAt RS.cells 7 N w v L) (hok : ∀ x ∈ L, x.Ok N w) : StmtsAt N w v (L.map (·.s)) := by
  have hm : ∀ i, i < L.length → (L.map (·.s)).getD i default = (L.getD i default).s ∧ L.getD i default ∈ L := fun i hi => by simp [List.getD, hi]
  refine .mk v _ (fun i => .slice (L.getD i default).oa (L.getD i default).na (L.getD i default).ca) (fun i => .slice (L.getD i default).ob (L.getD i default).nb (L.getD i default).cb) (fun i => .slice (L.getD i default).oe (L.getD i default).ne (L.getD i default).ce) ?_ ?_ ?_ ?_ ?_
  · obtain ⟨oa, cap, e, a1, a2, a3, a4⟩ := h
    refine ⟨oa, cap, by simpa using e, by simpa using a1, a2, by simpa using a3, fun h0 => ?_⟩
    obtain ⟨b, off, e2, hb, hc⟩ := a4 (by simpa using h0)
    refine ⟨b, off, e2, hb, fun i hi => ?_⟩
    have hi' : i < L.length := by simpa using hi
    have e3 := (hm i hi').1
    have := hc i hi'
    show (Stmt.cells ((L.map (·.s)).getD i default) _ _ _).length = 7 ∧ CellsAt w b (off + i * 7) (Stmt.cells ((L.map (·.s)).getD i default) _ _ _)
    rw [e3]
    exact this
  all_goals
    intro i hi
    have hi' : i < L.length := by simpa using hi
    obtain ⟨e, hmem⟩ := hm i hi'
    rw [e]
    obtain ⟨q1, q2, q3, q4⟩ := hok _ hmem
  · exact q1
  · exact q2
  · exact q3
  · exact q4
theorem OwnAt.new {α : Type} (f : α → List Value) (sz : Nat) (E : TypeId) (w : World) : OwnAt f sz E w.heap.size (w.alloc (.cells #[] E)) (.slice (some ⟨w.heap.size, 0, none⟩) 0 0) ([] : List α) :=
  ⟨by simp, .inr ⟨w.heap.size, 0, #[], rfl, Nat.le_refl _, heap_alloc_new w _, by simp, by unfold maxLen; omega, by simp, by simp⟩⟩
end Go.Proofs.YtkfdnlfkomhmfaaGreatDoor

namespace Go.Proofs.YtkfdnlfkomhmfaaGreatDoor
open Go.RowKit
set_option linter.unusedVariables false
set_option linter.unusedSimpArgs false

theorem exprsOf_append (a b : List Stmt) : exprsOf (a ++ b) = exprsOf a ++ exprsOf b := by simp [exprsOf, preS_append]
theorem us_union {ds : List Decl} (hd : Idx ds) (t : Bool) {l a b : List Stmt} (h : ∀ x, x ∈ exprsOf l ↔ x ∈ exprsOf a ∨ x ∈ exprsOf b) : usS ds t [] l = unionR (usS ds t [] a) (usS ds t [] b) := by
  refine asc_ext (good_usS hd t _ l [] (Nat.le_refl _) Good.nil).1 ((good_usS hd t _ a [] (Nat.le_refl _) Good.nil).union (good_usS hd t _ b [] (Nat.le_refl _) Good.nil)).1 fun i => ?_
  rw [mem_unionR, mem_usS ds t i _ l [] (Nat.le_refl _), mem_usS ds t i _ a [] (Nat.le_refl _), mem_usS ds t i _ b [] (Nat.le_refl _)]
  simp only [List.not_mem_nil, false_or]
  constructor
  · rintro ⟨y, hy, h'⟩
    rcases (h y).1 hy with hy | hy
    · exact .inl ⟨y, hy, h'⟩
    · exact .inr ⟨y, hy, h'⟩
  · rintro (⟨y, hy, h'⟩ | ⟨y, hy, h'⟩)
    · exact ⟨y, (h y).2 (.inl hy), h'⟩
    · exact ⟨y, (h y).2 (.inr hy), h'⟩
theorem wr_union {ds : List Decl} (hd : Idx ds) {l a b : List Stmt} (h : ∀ i, (∃ y ∈ preS l, i ∈ hereW ds y.kind y.name) ↔ (∃ y ∈ preS a, i ∈ hereW ds y.kind y.name) ∨ ∃ y ∈ preS b, i ∈ hereW ds y.kind y.name) : wrS ds [] l = unionR (wrS ds [] a) (wrS ds [] b) := by
  refine asc_ext (good_wrS hd _ l [] (Nat.le_refl _) Good.nil).1 ((good_wrS hd _ a [] (Nat.le_refl _) Good.nil).union (good_wrS hd _ b [] (Nat.le_refl _) Good.nil)).1 fun i => ?_
  rw [mem_unionR, mem_wrS ds i _ l [] (Nat.le_refl _), mem_wrS ds i _ a [] (Nat.le_refl _), mem_wrS ds i _ b [] (Nat.le_refl _)]
  simp only [List.not_mem_nil, false_or]
  exact h i
def repS (b : List Stmt) : Stmt := ⟨5, emp, 2, [], b, [], 0⟩
/-- what the two lists of the law owe: their accesses are the unions of a's and b's -/
def Uni (ds : List Decl) (a b l : List Stmt) : Prop := (∀ t, usS ds t [] l = unionR (usS ds t [] a) (usS ds t [] b)) ∧ wrS ds [] l = unionR (wrS ds [] a) (wrS ds [] b)
theorem uni_all {ds : List Decl} (hd : Idx ds) (a b : List Stmt) : Uni ds a b (a ++ b) := by
  refine ⟨fun t => us_union hd t fun x => by rw [exprsOf_append, List.mem_append], wr_union hd fun i => ?_⟩
  rw [preS_append]
  simp only [List.mem_append]
  constructor
  · rintro ⟨y, hy | hy, h⟩
    · exact .inl ⟨y, hy, h⟩
    · exact .inr ⟨y, hy, h⟩
  · rintro (⟨y, hy, h⟩ | ⟨y, hy, h⟩)
    · exact ⟨y, .inl hy, h⟩
    · exact ⟨y, .inr hy, h⟩
theorem uni_nested {ds : List Decl} (hd : Idx ds) (a b : List Stmt) : Uni ds a b (a ++ [repS b]) := by
  have e1 : exprsOf [repS b] = exprsOf b := by simp [exprsOf, preS, preS1_eq, repS, preE]
  have e2 : preS [repS b] = repS b :: preS b := by simp [preS, preS1_eq, repS]
  refine ⟨fun t => us_union hd t fun x => by rw [exprsOf_append, List.mem_append, e1], wr_union hd fun i => ?_⟩
  rw [preS_append, e2]
  simp only [List.mem_append, List.mem_cons]
  constructor
  · rintro ⟨y, hy | rfl | hy, h⟩
    · exact .inl ⟨y, hy, h⟩
    · simp [hereW, repS] at h
    · exact .inr ⟨y, hy, h⟩
  · rintro (⟨y, hy, h⟩ | ⟨y, hy, h⟩)
    · exact ⟨y, .inl hy, h⟩
    · exact ⟨y, .inr (.inr hy), h⟩
theorem repS_sz (b : List Stmt) : sszs [repS b] = 1 + sszs b := by simp [sszs, repS, ssz_eq, eszs, emp, ByteArray.size]
theorem infoSt : (Tryz.prog.info? 44).map (fun i => (i.zero, i.size, i.bytes)) = some (some (.agg #[.int .i64 0, .string ⟨#[]⟩, .int .i64 0, .slice none 0 0, .slice none 0 0, .slice none 0 0, .int .i64 0]), 7, 112) := by kernel_rfl
theorem vlen40 {vs : List Value} (h : vs.length = 40) : ∃ u0 u1 u2 u3 u4 u5 u6 u7 u8 u9 u10 u11 u12 u13 u14 u15 u16 u17 u18 u19 u20 u21 u22 u23 u24 u25 u26 u27 u28 u29 u30 u31 u32 u33 u34 u35 u36 u37 u38 u39, vs = [u0, u1, u2, u3, u4, u5, u6, u7, u8, u9, u10, u11, u12, u13, u14, u15, u16, u17, u18, u19, u20, u21, u22, u23, u24, u25, u26, u27, u28, u29, u30, u31, u32, u33, u34, u35, u36, u37, u38, u39] := by
  obtain ⟨u0, t0, rfl⟩ := List.exists_cons_of_length_eq_add_one h
  replace h : t0.length = 39 := by simpa using h
  obtain ⟨u1, t1, rfl⟩ := List.exists_cons_of_length_eq_add_one h
  replace h : t1.length = 38 := by simpa using h
  obtain ⟨u2, t2, rfl⟩ := List.exists_cons_of_length_eq_add_one h
  replace h : t2.length = 37 := by simpa using h
  obtain ⟨u3, t3, rfl⟩ := List.exists_cons_of_length_eq_add_one h
  replace h : t3.length = 36 := by simpa using h
  obtain ⟨u4, t4, rfl⟩ := List.exists_cons_of_length_eq_add_one h
  replace h : t4.length = 35 := by simpa using h
  obtain ⟨u5, t5, rfl⟩ := List.exists_cons_of_length_eq_add_one h
  replace h : t5.length = 34 := by simpa using h
  obtain ⟨u6, t6, rfl⟩ := List.exists_cons_of_length_eq_add_one h
  replace h : t6.length = 33 := by simpa using h
  obtain ⟨u7, t7, rfl⟩ := List.exists_cons_of_length_eq_add_one h
  replace h : t7.length = 32 := by simpa using h
  obtain ⟨u8, t8, rfl⟩ := List.exists_cons_of_length_eq_add_one h
  replace h : t8.length = 31 := by simpa using h
  obtain ⟨u9, t9, rfl⟩ := List.exists_cons_of_length_eq_add_one h
  replace h : t9.length = 30 := by simpa using h
  obtain ⟨u10, t10, rfl⟩ := List.exists_cons_of_length_eq_add_one h
  replace h : t10.length = 29 := by simpa using h
  obtain ⟨u11, t11, rfl⟩ := List.exists_cons_of_length_eq_add_one h
  replace h : t11.length = 28 := by simpa using h
  obtain ⟨u12, t12, rfl⟩ := List.exists_cons_of_length_eq_add_one h
  replace h : t12.length = 27 := by simpa using h
  obtain ⟨u13, t13, rfl⟩ := List.exists_cons_of_length_eq_add_one h
  replace h : t13.length = 26 := by simpa using h
  obtain ⟨u14, t14, rfl⟩ := List.exists_cons_of_length_eq_add_one h
  replace h : t14.length = 25 := by simpa using h
  obtain ⟨u15, t15, rfl⟩ := List.exists_cons_of_length_eq_add_one h
  replace h : t15.length = 24 := by simpa using h
  obtain ⟨u16, t16, rfl⟩ := List.exists_cons_of_length_eq_add_one h
  replace h : t16.length = 23 := by simpa using h
  obtain ⟨u17, t17, rfl⟩ := List.exists_cons_of_length_eq_add_one h
  replace h : t17.length = 22 := by simpa using h
  obtain ⟨u18, t18, rfl⟩ := List.exists_cons_of_length_eq_add_one h
  replace h : t18.length = 21 := by simpa using h
  obtain ⟨u19, t19, rfl⟩ := List.exists_cons_of_length_eq_add_one h
  replace h : t19.length = 20 := by simpa using h
  obtain ⟨u20, t20, rfl⟩ := List.exists_cons_of_length_eq_add_one h
  replace h : t20.length = 19 := by simpa using h
  obtain ⟨u21, t21, rfl⟩ := List.exists_cons_of_length_eq_add_one h
  replace h : t21.length = 18 := by simpa using h
  obtain ⟨u22, t22, rfl⟩ := List.exists_cons_of_length_eq_add_one h
  replace h : t22.length = 17 := by simpa using h
  obtain ⟨u23, t23, rfl⟩ := List.exists_cons_of_length_eq_add_one h
  replace h : t23.length = 16 := by simpa using h
  obtain ⟨u24, t24, rfl⟩ := List.exists_cons_of_length_eq_add_one h
  replace h : t24.length = 15 := by simpa using h
  obtain ⟨u25, t25, rfl⟩ := List.exists_cons_of_length_eq_add_one h
  replace h : t25.length = 14 := by simpa using h
  obtain ⟨u26, t26, rfl⟩ := List.exists_cons_of_length_eq_add_one h
  replace h : t26.length = 13 := by simpa using h
  obtain ⟨u27, t27, rfl⟩ := List.exists_cons_of_length_eq_add_one h
  replace h : t27.length = 12 := by simpa using h
  obtain ⟨u28, t28, rfl⟩ := List.exists_cons_of_length_eq_add_one h
  replace h : t28.length = 11 := by simpa using h
  obtain ⟨u29, t29, rfl⟩ := List.exists_cons_of_length_eq_add_one h
  replace h : t29.length = 10 := by simpa using h
  obtain ⟨u30, t30, rfl⟩ := List.exists_cons_of_length_eq_add_one h
  replace h : t30.length = 9 := by simpa using h
  obtain ⟨u31, t31, rfl⟩ := List.exists_cons_of_length_eq_add_one h
  replace h : t31.length = 8 := by simpa using h
  obtain ⟨u32, t32, rfl⟩ := List.exists_cons_of_length_eq_add_one h
  replace h : t32.length = 7 := by simpa using h
  obtain ⟨u33, t33, rfl⟩ := List.exists_cons_of_length_eq_add_one h
  replace h : t33.length = 6 := by simpa using h
  obtain ⟨u34, t34, rfl⟩ := List.exists_cons_of_length_eq_add_one h
  replace h : t34.length = 5 := by simpa using h
  obtain ⟨u35, t35, rfl⟩ := List.exists_cons_of_length_eq_add_one h
  replace h : t35.length = 4 := by simpa using h
  obtain ⟨u36, t36, rfl⟩ := List.exists_cons_of_length_eq_add_one h
  replace h : t36.length = 3 := by simpa using h
  obtain ⟨u37, t37, rfl⟩ := List.exists_cons_of_length_eq_add_one h
  replace h : t37.length = 2 := by simpa using h
  obtain ⟨u38, t38, rfl⟩ := List.exists_cons_of_length_eq_add_one h
  replace h : t38.length = 1 := by simpa using h
  obtain ⟨u39, t39, rfl⟩ := List.exists_cons_of_length_eq_add_one h
  replace h : t39.length = 0 := by simpa using h
  obtain rfl := List.eq_nil_of_length_eq_zero h
  exact ⟨_, _, _, _, _, _, _, _, _, _, _, _, _, _, _, _, _, _, _, _, _, _, _, _, _, _, _, _, _, _, _, _, _, _, _, _, _, _, _, _, rfl⟩
theorem RS.Ok.mono {N N' : Nat} {w : World} {x : RS} (h : x.Ok N w) (hn : N ≤ N') : x.Ok N' w := ⟨h.1, h.2.1.mono hn, h.2.2.1.mono hn, h.2.2.2.mono hn⟩
theorem sszs_len (l : List Stmt) : l.length ≤ sszs l := by
  induction l with
  | nil => simp
  | cons x l ih => simp [sszs, ssz_eq]; omega

set_option maxRecDepth 100000 in
set_option maxHeartbeats 8000000 in
theorem lawUni_any (p : Prog) (a b : List Stmt) (v0 v1 v2 v3 v4 v5 va vb : Value) (N : Nat) (w : World) (hp : ProgAt N w v0 v1 v2 v3 v4 v5 p) (ha : StmtsAt N w va a) (hb : StmtsAt N w vb b) (hN : N ≤ w.heap.size) (hT : Tabs w) (hts : ∀ t ∈ p.tasks, sszs t.body ≤ 1048576) (hla : sszs a ≤ 1048576) (hlb : sszs b ≤ 1048576) :
    Calls Tryz.prog 9 #[.agg #[v0, v1, v2, v3, v4, v5], va, vb] w fun e w' => e = .returned (.bool true) ∧ Below w.heap.size w w' := by
  obtain ⟨o0, q0, rfl, _, _, n0⟩ := SliceAt.slice hp.consts
  obtain ⟨o1, q1, rfl, _, _, n1⟩ := SliceAt.slice hp.globals
  obtain ⟨o2, q2, rfl, _, _, n2⟩ := SliceAt.slice hp.sensors
  obtain ⟨o3, q3, rfl, _, _, n3⟩ := SliceAt.slice hp.outputs
  obtain ⟨o4, q4, rfl, _, _, n4⟩ := SliceAt.slice hp.channels
  obtain ⟨o5, q5, rfl, _, _, n5⟩ := hp.tasks.slice
  obtain ⟨oa, ca, rfl, _, _, na⟩ := ha.slice
  obtain ⟨ob, cb, rfl, _, _, nb⟩ := hb.slice
  have HTS := Lib.hid hts
  have HDS := Lib.hid (idx_prog n0 n1 n2 n3 n4 n5)
  have HLA := Lib.hid hla
  have HLB := Lib.hid hlb
  clear hts hla hlb
  go_enter Tryz.func9, Tryz.ntmps9
  go_upto_region 1 with fail
  have hA := Blk.new w #[.slice o0 p.consts.length q0, .slice o1 p.globals.length q1, .slice o2 p.sensors.length q2, .slice o3 p.outputs.length q3, .slice o4 p.channels.length q4, .slice o5 p.tasks.length q5] 28
  have hWB := (Below.refl w.heap.size w).alloc (Nat.le_refl _) (.cells #[.slice o0 p.consts.length q0, .slice o1 p.globals.length q1, .slice o2 p.sensors.length q2, .slice o3 p.outputs.length q3, .slice o4 p.channels.length q4, .slice o5 p.tasks.length q5] 28)
  generalize w.alloc (.cells #[.slice o0 p.consts.length q0, .slice o1 p.globals.length q1, .slice o2 p.sensors.length q2, .slice o3 p.outputs.length q3, .slice o4 p.channels.length q4, .slice o5 p.tasks.length q5] 28) = W at hA hWB ⊢
  have a0 := hA.cell 0 rfl
  have a1 := hA.cell 1 rfl
  have a2 := hA.cell 2 rfl
  have a3 := hA.cell 3 rfl
  have a4 := hA.cell 4 rfl
  have a5 := hA.cell 5 rfl
  have hp' := hp.lift (hWB.mono hN)
  have ha' := ha.lift (hWB.mono hN)
  have hb' := hb.lift (hWB.mono hN)
  have hNW := Nat.le_trans hN hWB.size
  have HTW := Lib.hid (hT.later hWB)
  have HSM := Lib.hid (Small_any p _ _ _ _ _ _ N _ hp' hNW (fun t ht => Nat.le_trans (HTS.out t ht) (by omega)))
  clear hT hp ha hb
  cases hsm : smallB p
  · rw [hsm] at HSM
    clear hsm
    go_wp2_with (first
      | (go_at_call 10; refine HSM.out.mono ?_; rintro e w1 ⟨rfl, hB1⟩)
      | (go_at_call 11; refine (examples_any _ (HTW.out.later hB1)).mono ?_; rintro e w2 ⟨rfl, hB2⟩))
    go_ret
    exact ⟨rfl, hWB.trans ((hB1.trans (hB2.mono hB1.size)).mono hWB.size)⟩
  · rw [hsm] at HSM
    clear hsm
    have HSA : Hid (∀ (w1 : World), Below W.heap.size W w1 → Calls Tryz.prog 17 #[.slice oa a.length ca] w1 fun e w' => e = .returned (.int .i64 ((sszs a : Nat) : Int)) ∧ Below w1.heap.size w1 w') := Lib.hid fun w1 hB1 =>
      Size_any _ a _ N w1 (Nat.lt_succ_self _) (ha'.lift (hB1.mono hNW)) (Nat.le_trans hNW hB1.size) (Nat.le_trans HLA.out (by omega))
    have HSB : Hid (∀ (w1 : World), Below W.heap.size W w1 → Calls Tryz.prog 17 #[.slice ob b.length cb] w1 fun e w' => e = .returned (.int .i64 ((sszs b : Nat) : Int)) ∧ Below w1.heap.size w1 w') := Lib.hid fun w1 hB1 =>
      Size_any _ b _ N w1 (Nat.lt_succ_self _) (hb'.lift (hB1.mono hNW)) (Nat.le_trans hNW hB1.size) (Nat.le_trans HLB.out (by omega))
    by_cases hbig : 500 < sszs a
    · have tb : decide (((sszs a : Nat) : Int) > 500) = true := decide_eq_true (by omega)
      clear hbig HSB
      generalize sszs a = Z at HSA tb
      go_wp2_with (first
        | (go_at_call 10; refine HSM.out.mono ?_; rintro e w1 ⟨rfl, hB1⟩)
        | (go_at_call 17; refine (HSA.out _ hB1).mono ?_; rintro e w2 ⟨rfl, hB2⟩)
        | (go_at_call 11; refine (examples_any _ ((HTW.out.later hB1).later hB2)).mono ?_; rintro e w3 ⟨rfl, hB3⟩))
      go_ret
      exact ⟨rfl, hWB.trans ((hB1.trans ((hB2.trans (hB3.mono hB2.size)).mono hB1.size)).mono hWB.size)⟩
    · have ta : decide (((sszs a : Nat) : Int) > 500) = false := decide_eq_false (by omega)
      have HBA := Lib.hid hbig
      clear hbig
      by_cases hbig : 500 < sszs b
      · have tb : decide (((sszs b : Nat) : Int) > 500) = true := decide_eq_true (by omega)
        clear hbig
        generalize sszs a = Z at HSA ta
        generalize sszs b = Z2 at HSB tb
        go_wp2_with (first
          | (go_at_call 10; refine HSM.out.mono ?_; rintro e w1 ⟨rfl, hB1⟩)
          | (go_at_call 17; refine (HSA.out _ hB1).mono ?_; rintro e w2 ⟨rfl, hB2⟩; have hB12 := hB1.trans (hB2.mono hB1.size); clear HSA)
          | (go_at_call 17; refine (HSB.out _ hB12).mono ?_; rintro e w3 ⟨rfl, hB3⟩; have hB13 := hB12.trans (hB3.mono hB12.size))
          | (go_at_call 11; refine (examples_any _ (HTW.out.later hB13)).mono ?_; rintro e w4 ⟨rfl, hB4⟩))
        go_ret
        exact ⟨rfl, hWB.trans ((hB13.trans (hB4.mono hB13.size)).mono hWB.size)⟩
      · have tb : decide (((sszs b : Nat) : Int) > 500) = false := decide_eq_false (by omega)
        have HBB := Lib.hid hbig
        clear hbig
        generalize sszs a = Z at HSA ta
        generalize sszs b = Z2 at HSB tb
        obtain ⟨LA, hLA, hfA, hoA⟩ := ha'.rich
        obtain ⟨LB, hLB, hfB, hoB⟩ := hb'.rich
        have hnA : LA.length = a.length := by rw [← hLA]; simp
        have hnB : LB.length = b.length := by rw [← hLB]; simp
        have HLA2 := Lib.hid hLA
        have HLB2 := Lib.hid hLB
        have HNA := Lib.hid hnA
        have HNB := Lib.hid hnB
        clear hLA hLB hnA hnB
        go_upto_region 3 with (first
          | (go_at_call 10; refine HSM.out.mono ?_; rintro e w1 ⟨rfl, hB1⟩)
          | (go_at_call 17; refine (HSA.out _ hB1).mono ?_; rintro e w2 ⟨rfl, hB2⟩; have hB12 := hB1.trans (hB2.mono hB1.size); clear HSA)
          | (go_at_call 17; refine (HSB.out _ hB12).mono ?_; rintro e w3 ⟨rfl, hB3⟩; have hB13 := hB12.trans (hB3.mono hB12.size)))
        have hAf := fun (W9 : World) (h : Below W.heap.size W W9) => (show FlatAt RS.cells 7 N W9 (.slice oa a.length ca) LA from SliceAt.lift hfA (h.mono hNW))
        have hBf := fun (W9 : World) (h : Below W.heap.size W W9) => (show FlatAt RS.cells 7 N W9 (.slice ob b.length cb) LB from SliceAt.lift hfB (h.mono hNW))
        have HAF := Lib.hid hAf
        have HBF := Lib.hid hBf
        clear hAf hBf hfA hfB
        have hw3 := hB13.size
        have hE3 := (Below.refl w3.heap.size w3).alloc (Nat.le_refl _) (.cells #[] 44)
        have hW3a := hB13.trans (hE3.mono hw3)
        go_upto_region 4 with (first
          | (refine appendL rfl _ _ 42 rfl 44 Tryz.underlying42 infoSt rfl (by decide) (by decide) RS.len RS.one (OwnAt.new RS.cells 7 44 w3) rfl rfl (HAF.out _ hW3a) (by have := HNA.out; simp; omega) (by simp) ?_; intro v4 w4 hO4 hg4 _; change OwnAt RS.cells 7 _ _ w4 v4 LA at hO4; have hE4 := hE3.trans (OwnAt.below (OwnAt.new RS.cells 7 44 w3) hg4 hE3.size); have hW4 := hB13.trans (hE4.mono hw3); obtain ⟨x4, c4, rfl, _, _⟩ := hO4.slice)
          | (refine appendL rfl _ _ 42 rfl 44 Tryz.underlying42 infoSt rfl (by decide) (by decide) RS.len RS.one hO4 rfl rfl (HBF.out _ hW4) (by have := HNA.out; have := HNB.out; omega) (hE4.size) ?_; intro v5 w5 hO5 hg5 _; have hE5 := hE4.trans (OwnAt.below hO4 hg5 hE4.size); have hW5 := hB13.trans (hE5.mono hw3); obtain ⟨x5, c5, rfl, _, _⟩ := hO5.slice))
        have hw5 := hW5.size
        have hE5a := (Below.refl w5.heap.size w5).alloc (Nat.le_refl _) (.cells #[] 44)
        have hW5a := hW5.trans (hE5a.mono hw5)
        go_upto_region 5 with (first
          | (refine appendL rfl _ _ 42 rfl 44 Tryz.underlying42 infoSt rfl (by decide) (by decide) RS.len RS.one (OwnAt.new RS.cells 7 44 w5) rfl rfl (HAF.out _ hW5a) (by have := HNA.out; simp; omega) (by simp) ?_; intro v6 w6 hO6 hg6 _; change OwnAt RS.cells 7 _ _ w6 v6 LA at hO6; have hE6 := hE5a.trans (OwnAt.below (OwnAt.new RS.cells 7 44 w5) hg6 hE5a.size); have hW6 := hW5.trans (hE6.mono hw5); obtain ⟨x6, c6, rfl, _, _⟩ := hO6.slice)
          | (refine append1 rfl _ _ 42 rfl 44 Tryz.underlying42 infoSt rfl (by decide) (by decide) RS.len RS.one hO6 ⟨repS b, none, 0, 0, ob, b.length, cb, none, 0, 0⟩ rfl rfl rfl rfl (by have := HNA.out; omega) hE6.size ?_; intro v7 w7 hO7 hg7 _ _; have hE7 := hE6.trans (OwnAt.below hO6 hg7 hE6.size); have hW7 := hW5.trans (hE7.mono hw5); obtain ⟨x7, c7, rfl, _, _⟩ := hO7.slice))
        have hO57 := hO5.later hE7
        have hl5 : (LA ++ LB).length ≤ 1048576 := by have h1 := HNA.out; have h2 := HNB.out; have h3 := HBA.out; have h4 := HBB.out; have h5 := sszs_len a; have h6 := sszs_len b; simp; omega
        have hl7 : (LA ++ [(⟨repS b, none, 0, 0, ob, b.length, cb, none, 0, 0⟩ : RS)]).length ≤ 1048576 := by have h1 := HNA.out; have h3 := HBA.out; have h5 := sszs_len a; simp; omega
        have hokA := fun (W9 : World) (h : Below W.heap.size W W9) (x : RS) (hx : x ∈ LA) => (hoA x hx).lift (h.mono hNW)
        have hokB := fun (W9 : World) (h : Below W.heap.size W W9) (x : RS) (hx : x ∈ LB) => (hoB x hx).lift (h.mono hNW)
        rw [show (LA ++ LB).length = LA.length + LB.length by simp] at hO57
        rw [show (LA ++ [(⟨repS b, none, 0, 0, ob, b.length, cb, none, 0, 0⟩ : RS)]).length = LA.length + 1 by simp] at hO7
        have hw7 := hW7.size
        have hNw7 := Nat.le_trans hNW hw7
        have S5 : StmtsAt w7.heap.size w7 (.slice x5 (LA.length + LB.length) c5) (a ++ b) := by
          have := RS.stmts (hO57.flat RS.len hl5) (fun x hx => (show RS.Ok N w7 x from (List.mem_append.1 hx).elim (hokA w7 hW7 x) (hokB w7 hW7 x)).mono hNw7)
          rw [List.map_append, HLA2.out, HLB2.out] at this
          exact this
        have S7 : StmtsAt w7.heap.size w7 (.slice x7 (LA.length + 1) c7) (a ++ [repS b]) := by
          have hbN := hb'.lift (hW7.mono hNW)
          have := RS.stmts (hO7.flat RS.len hl7) (fun x hx => (show RS.Ok N w7 x from (List.mem_append.1 hx).elim (hokA w7 hW7 x) (fun h => by
            rw [List.mem_singleton] at h
            subst h
            exact ⟨⟨by show -9223372036854775808 ≤ (5 : Int) ∧ (5 : Int) ≤ 9223372036854775807; omega, show Str emp from small_str (by decide), by show -9223372036854775808 ≤ (2 : Int) ∧ (2 : Int) ≤ 9223372036854775807; omega, by show -9223372036854775808 ≤ (0 : Int) ∧ (0 : Int) ≤ 9223372036854775807; omega⟩, nil_exprs _ _, hbN, nil_stmts _ _⟩)).mono hNw7)
          rw [List.map_append, HLA2.out] at this
          exact this
        have hfa := Fits.of HLA.out
        have hfb := Fits.of HLB.out
        have F5 : Fits (a ++ b) := Fits.of (by rw [sszs_append]; have := HBA.out; have := HBB.out; omega)
        have F7 : Fits (a ++ [repS b]) := Fits.of (by rw [sszs_append, repS_sz]; have := HBA.out; have := HBB.out; omega)
        have U5 := uni_all HDS.out a b
        have U7 := uni_nested HDS.out a b
        have HGD := Lib.hid (fun (t : Bool) (l : List Stmt) => good_usS HDS.out t _ l [] (Nat.le_refl _) Good.nil)
        have HGW := Lib.hid (fun (l : List Stmt) => good_wrS HDS.out _ l [] (Nat.le_refl _) Good.nil)
        clear hO57 hO7 hO6 hO5 hO4 hokA hokB hl5 hl7 hoA hoB hE3 hE4 hE5 hE6 hE7 hE5a
        go_upto_region 6 with fail
        have hK := Blk.new w7 #[.slice x5 (LA.length + LB.length) c5, .slice x7 (LA.length + 1) c7] 42
        have hB8 := (Below.refl w7.heap.size w7).alloc (Nat.le_refl _) (.cells #[.slice x5 (LA.length + LB.length) c5, .slice x7 (LA.length + 1) c7] 42)
        generalize w7.alloc (.cells #[.slice x5 (LA.length + LB.length) c5, .slice x7 (LA.length + 1) c7] 42) = W8 at hK hB8 ⊢
        have hWW8 := hW7.trans (hB8.mono hw7)
        have HEL := Lib.hid (show ∀ k, k < 2 → ∃ xo n c ll, W8.cell? ⟨w7.heap.size, k, none⟩ = some (.slice xo n c) ∧ StmtsAt W8.heap.size W8 (.slice xo n c) ll ∧ Fits ll ∧ Uni (namesOf p) a b ll from fun k hk => by
          rcases Nat.lt_or_ge k 1 with h | h
          · obtain rfl : k = 0 := by omega
            exact ⟨_, _, _, _, hK.cell 0 rfl, (S5.lift hB8).mono hB8.size, F5, U5⟩
          · obtain rfl : k = 1 := by omega
            exact ⟨_, _, _, _, hK.cell 1 rfl, (S7.lift hB8).mono hB8.size, F7, U7⟩)
        clear S5 S7 F5 F7 U5 U7 hK
        go_loopw [41] (fun i wr => ∃ k : Nat, k ≤ 2 ∧ i = .int .i64 k ∧ Below W8.heap.size W8 wr) (fun i _ => 2 - (intOf i).toNat)
        case atStart => exact ⟨0, by omega, rfl, Below.refl _ _⟩
        case round =>
          obtain ⟨k, hk, rfl, hBr⟩ := hrel
          rename World => wr
          have hBQ := hWW8.trans (hBr.mono hWW8.size)
          by_cases hlt : k < 2
          · obtain ⟨ol, nl, cl, l, hcell, hst, hf, hU1, hU2⟩ := HEL.out k hlt
            have HU1 := Lib.hid hU1
            have HU2 := Lib.hid hU2
            clear hU1 hU2
            have e0 := cell_later hcell hBr
            have hl' := hst.lift hBr
            have hNl := hBr.size
            go_wp2_with fail
            simp only [show decide ((k : Int) < 2) = true from decide_eq_true (by omega)]
            refine wp_region_spec [Sp.is (.agg #[.slice o0 p.consts.length q0, .slice o1 p.globals.length q1, .slice o2 p.sensors.length q2, .slice o3 p.outputs.length q3, .slice o4 p.channels.length q4, .slice o5 p.tasks.length q5]), Sp.is (.slice ol nl cl), Sp.row W.heap.size (usS (namesOf p) false [] l), Sp.is (.agg #[.slice o0 p.consts.length q0, .slice o1 p.globals.length q1, .slice o2 p.sensors.length q2, .slice o3 p.outputs.length q3, .slice o4 p.channels.length q4, .slice o5 p.tasks.length q5]), Sp.is (.slice oa a.length ca), Sp.row W.heap.size (usS (namesOf p) false [] a), Sp.is (.agg #[.slice o0 p.consts.length q0, .slice o1 p.globals.length q1, .slice o2 p.sensors.length q2, .slice o3 p.outputs.length q3, .slice o4 p.channels.length q4, .slice o5 p.tasks.length q5]), Sp.is (.slice ob b.length cb), Sp.row W.heap.size (usS (namesOf p) false [] b), Sp.row W.heap.size (unionR (usS (namesOf p) false [] a) (usS (namesOf p) false [] b)), Sp.is (.bool true), Sp.is (.bool false), Sp.is (.bool false), Sp.is (.agg #[.slice o0 p.consts.length q0, .slice o1 p.globals.length q1, .slice o2 p.sensors.length q2, .slice o3 p.outputs.length q3, .slice o4 p.channels.length q4, .slice o5 p.tasks.length q5]), Sp.is (.slice ol nl cl), Sp.row W.heap.size (wrS (namesOf p) [] l), Sp.is (.agg #[.slice o0 p.consts.length q0, .slice o1 p.globals.length q1, .slice o2 p.sensors.length q2, .slice o3 p.outputs.length q3, .slice o4 p.channels.length q4, .slice o5 p.tasks.length q5]), Sp.is (.slice oa a.length ca), Sp.row W.heap.size (wrS (namesOf p) [] a), Sp.is (.agg #[.slice o0 p.consts.length q0, .slice o1 p.globals.length q1, .slice o2 p.sensors.length q2, .slice o3 p.outputs.length q3, .slice o4 p.channels.length q4, .slice o5 p.tasks.length q5]), Sp.is (.slice ob b.length cb), Sp.row W.heap.size (wrS (namesOf p) [] b), Sp.row W.heap.size (unionR (wrS (namesOf p) [] a) (wrS (namesOf p) [] b)), Sp.is (.bool true), Sp.is (.bool false), Sp.is (.bool false), Sp.is (.bool false), Sp.is (.agg #[.slice o0 p.consts.length q0, .slice o1 p.globals.length q1, .slice o2 p.sensors.length q2, .slice o3 p.outputs.length q3, .slice o4 p.channels.length q4, .slice o5 p.tasks.length q5]), Sp.is (.slice ol nl cl), Sp.row W.heap.size (usS (namesOf p) true [] l), Sp.is (.agg #[.slice o0 p.consts.length q0, .slice o1 p.globals.length q1, .slice o2 p.sensors.length q2, .slice o3 p.outputs.length q3, .slice o4 p.channels.length q4, .slice o5 p.tasks.length q5]), Sp.is (.slice oa a.length ca), Sp.row W.heap.size (usS (namesOf p) true [] a), Sp.is (.agg #[.slice o0 p.consts.length q0, .slice o1 p.globals.length q1, .slice o2 p.sensors.length q2, .slice o3 p.outputs.length q3, .slice o4 p.channels.length q4, .slice o5 p.tasks.length q5]), Sp.is (.slice ob b.length cb), Sp.row W.heap.size (usS (namesOf p) true [] b), Sp.row W.heap.size (unionR (usS (namesOf p) true [] a) (usS (namesOf p) true [] b)), Sp.is (.bool true), Sp.is (.bool false), Sp.is (.bool false)] mixed (by kernel_rfl) (by kernel_rfl) rfl (by kernel_rfl) ?step ?fin
            case step =>
              intro vs W9 hvl hVB
              obtain ⟨u0, u1, u2, u3, u4, u5, u6, u7, u8, u9, u10, u11, u12, u13, u14, u15, u16, u17, u18, u19, u20, u21, u22, u23, u24, u25, u26, u27, u28, u29, u30, u31, u32, u33, u34, u35, u36, u37, u38, u39, rfl⟩ := vlen40 hvl
              have hAV := (hA.later hBQ).later hVB
              have a0 := hAV.cell 0 rfl
              have a1 := hAV.cell 1 rfl
              have a2 := hAV.cell 2 rfl
              have a3 := hAV.cell 3 rfl
              have a4 := hAV.cell 4 rfl
              have a5 := hAV.cell 5 rfl
              have hBW9 := hBQ.trans (hVB.mono hBQ.size)
              have hpV := hp'.lift (hBW9.mono hNW)
              have hlV := hl'.lift (hVB.mono hNl)
              have haV := ha'.lift (hBW9.mono hNW)
              have hbV := hb'.lift (hBW9.mono hNW)
              have hNV := Nat.le_trans hNW hBW9.size
              have hNL := Nat.le_trans hNl hVB.size
              have hpL := hpV.mono (show N ≤ W8.heap.size from Nat.le_trans hNW hWW8.size)
              have hBV := hBW9.size
              simp only [frameOf, List.zip_cons_cons, List.zip_nil_left, List.foldl_cons, List.foldl_nil, Act.put, List.setIfInBounds_toArray, List.set_cons_succ, List.set_cons_zero]
              refine ⟨fun hd ho => ?_, fun hd ho => ?_, fun hd ho => ?_, fun hd ho => ?_, fun hd ho => ?_, fun hd ho => ?_, fun hd ho => ?_, fun hd ho => ?_, fun hd ho => ?_, fun hd ho => ?_, fun hd ho => ?_, fun hd ho => ?_, fun hd ho => ?_, fun hd ho => ?_, fun hd ho => ?_, fun hd ho => ?_, fun hd ho => ?_, fun hd ho => ?_, fun hd ho => ?_, fun hd ho => ?_, fun hd ho => ?_, fun hd ho => ?_, fun hd ho => ?_, fun hd ho => ?_, fun hd ho => ?_, fun hd ho => ?_, fun hd ho => ?_, fun hd ho => ?_, fun hd ho => ?_, fun hd ho => ?_, fun hd ho => ?_, fun hd ho => ?_, fun hd ho => ?_, fun hd ho => ?_, fun hd ho => ?_, fun hd ho => ?_, fun hd ho => ?_, fun hd ho => ?_, fun hd ho => ?_, fun hd ho => ?_, trivial⟩
              · go_wp2_with fail
                exact ⟨rfl, _, rfl, Below.refl _ _, rfl⟩
              · go_wp2_with fail
                exact ⟨rfl, _, rfl, Below.refl _ _, rfl⟩
              · have h0 := deps_get hd 0 rfl
                change u0 = _ at h0
                subst h0
                have h1 := deps_get hd 1 rfl
                change u1 = _ at h1
                subst h1
                go_wp2_with (go_at_call 23; refine (Reads_any p HDS.out l _ _ _ _ _ _ _ W8.heap.size W9 (hpL) hlV hNL hf).mono ?_; rintro e w2 ⟨⟨v2, rfl, hO2⟩, hB2⟩)
                exact ⟨rfl, v2, rfl, hB2, OwnAt.base hO2 hBV⟩
              · go_wp2_with fail
                exact ⟨rfl, _, rfl, Below.refl _ _, rfl⟩
              · go_wp2_with fail
                exact ⟨rfl, _, rfl, Below.refl _ _, rfl⟩
              · have h3 := deps_get hd 3 rfl
                change u3 = _ at h3
                subst h3
                have h4 := deps_get hd 4 rfl
                change u4 = _ at h4
                subst h4
                go_wp2_with (go_at_call 23; refine (Reads_any p HDS.out a _ _ _ _ _ _ _ N W9 (hpV) haV hNV hfa).mono ?_; rintro e w2 ⟨⟨v2, rfl, hO2⟩, hB2⟩)
                exact ⟨rfl, v2, rfl, hB2, OwnAt.base hO2 hBV⟩
              · go_wp2_with fail
                exact ⟨rfl, _, rfl, Below.refl _ _, rfl⟩
              · go_wp2_with fail
                exact ⟨rfl, _, rfl, Below.refl _ _, rfl⟩
              · have h6 := deps_get hd 6 rfl
                change u6 = _ at h6
                subst h6
                have h7 := deps_get hd 7 rfl
                change u7 = _ at h7
                subst h7
                go_wp2_with (go_at_call 23; refine (Reads_any p HDS.out b _ _ _ _ _ _ _ N W9 (hpV) hbV hNV hfb).mono ?_; rintro e w2 ⟨⟨v2, rfl, hO2⟩, hB2⟩)
                exact ⟨rfl, v2, rfl, hB2, OwnAt.base hO2 hBV⟩
              · have h5 := deps_get hd 5 rfl
                change Row _ _ u5 _ at h5
                have h8 := deps_get hd 8 rfl
                change Row _ _ u8 _ at h8
                go_wp2_with (go_at_call 29; refine (runion_any _ _ W.heap.size _ _ _ W9 h5 h8 hBV (HGD.out false a) (HGD.out false b)).mono ?_; rintro e w2 ⟨⟨v2, rfl, hO2⟩, hB2⟩)
                exact ⟨rfl, v2, rfl, hB2, hO2⟩
              · have h2 := deps_get hd 2 rfl
                change Row _ _ u2 _ at h2
                have h9 := deps_get hd 9 rfl
                change Row _ _ u9 _ at h9
                rw [← HU1.out false] at h9
                go_wp2_with (go_at_call 22; refine (rsame_any (usS (namesOf p) false [] l) _ _ _ _ W9 h2 h9 (HGD.out false l).len).mono ?_; rintro e w2 ⟨rfl, hB2⟩)
                exact ⟨rfl, _, rfl, hB2, rfl⟩
              · have h10 := deps_get hd 10 rfl
                change u10 = _ at h10
                subst h10
                go_wp2_with fail
                exact ⟨rfl, _, rfl, Below.refl _ _, rfl⟩
              · have h11 := deps_get hd 11 rfl
                change u11 = _ at h11
                subst h11
                go_wp2_with fail
                exact ⟨rfl, _, rfl, Below.refl _ _, rfl⟩
              · have h12 := deps_get hd 12 rfl
                change u12 = _ at h12
                subst h12
                go_wp2_with fail
                exact ⟨rfl, _, rfl, Below.refl _ _, rfl⟩
              · have h12 := deps_get hd 12 rfl
                change u12 = _ at h12
                subst h12
                go_wp2_with fail
                exact ⟨rfl, _, rfl, Below.refl _ _, rfl⟩
              · have h12 := deps_get hd 12 rfl
                change u12 = _ at h12
                subst h12
                have h13 := deps_get hd 13 rfl
                change u13 = _ at h13
                subst h13
                have h14 := deps_get hd 14 rfl
                change u14 = _ at h14
                subst h14
                go_wp2_with (go_at_call 25; refine (Writes_any p HDS.out l _ _ _ _ _ _ _ W8.heap.size W9 (hpL) hlV hNL hf).mono ?_; rintro e w2 ⟨⟨v2, rfl, hO2⟩, hB2⟩)
                exact ⟨rfl, v2, rfl, hB2, OwnAt.base hO2 hBV⟩
              · have h12 := deps_get hd 12 rfl
                change u12 = _ at h12
                subst h12
                go_wp2_with fail
                exact ⟨rfl, _, rfl, Below.refl _ _, rfl⟩
              · have h12 := deps_get hd 12 rfl
                change u12 = _ at h12
                subst h12
                go_wp2_with fail
                exact ⟨rfl, _, rfl, Below.refl _ _, rfl⟩
              · have h12 := deps_get hd 12 rfl
                change u12 = _ at h12
                subst h12
                have h16 := deps_get hd 16 rfl
                change u16 = _ at h16
                subst h16
                have h17 := deps_get hd 17 rfl
                change u17 = _ at h17
                subst h17
                go_wp2_with (go_at_call 25; refine (Writes_any p HDS.out a _ _ _ _ _ _ _ N W9 (hpV) haV hNV hfa).mono ?_; rintro e w2 ⟨⟨v2, rfl, hO2⟩, hB2⟩)
                exact ⟨rfl, v2, rfl, hB2, OwnAt.base hO2 hBV⟩
              · have h12 := deps_get hd 12 rfl
                change u12 = _ at h12
                subst h12
                go_wp2_with fail
                exact ⟨rfl, _, rfl, Below.refl _ _, rfl⟩
              · have h12 := deps_get hd 12 rfl
                change u12 = _ at h12
                subst h12
                go_wp2_with fail
                exact ⟨rfl, _, rfl, Below.refl _ _, rfl⟩
              · have h12 := deps_get hd 12 rfl
                change u12 = _ at h12
                subst h12
                have h19 := deps_get hd 19 rfl
                change u19 = _ at h19
                subst h19
                have h20 := deps_get hd 20 rfl
                change u20 = _ at h20
                subst h20
                go_wp2_with (go_at_call 25; refine (Writes_any p HDS.out b _ _ _ _ _ _ _ N W9 (hpV) hbV hNV hfb).mono ?_; rintro e w2 ⟨⟨v2, rfl, hO2⟩, hB2⟩)
                exact ⟨rfl, v2, rfl, hB2, OwnAt.base hO2 hBV⟩
              · have h12 := deps_get hd 12 rfl
                change u12 = _ at h12
                subst h12
                have h18 := deps_get hd 18 rfl
                change Row _ _ u18 _ at h18
                have h21 := deps_get hd 21 rfl
                change Row _ _ u21 _ at h21
                go_wp2_with (go_at_call 29; refine (runion_any _ _ W.heap.size _ _ _ W9 h18 h21 hBV (HGW.out a) (HGW.out b)).mono ?_; rintro e w2 ⟨⟨v2, rfl, hO2⟩, hB2⟩)
                exact ⟨rfl, v2, rfl, hB2, hO2⟩
              · have h12 := deps_get hd 12 rfl
                change u12 = _ at h12
                subst h12
                have h15 := deps_get hd 15 rfl
                change Row _ _ u15 _ at h15
                have h22 := deps_get hd 22 rfl
                change Row _ _ u22 _ at h22
                rw [← HU2.out] at h22
                go_wp2_with (go_at_call 22; refine (rsame_any (wrS (namesOf p) [] l) _ _ _ _ W9 h15 h22 (HGW.out l).len).mono ?_; rintro e w2 ⟨rfl, hB2⟩)
                exact ⟨rfl, _, rfl, hB2, rfl⟩
              · have h12 := deps_get hd 12 rfl
                change u12 = _ at h12
                subst h12
                have h23 := deps_get hd 23 rfl
                change u23 = _ at h23
                subst h23
                go_wp2_with fail
                exact ⟨rfl, _, rfl, Below.refl _ _, rfl⟩
              · have h12 := deps_get hd 12 rfl
                change u12 = _ at h12
                subst h12
                have h24 := deps_get hd 24 rfl
                change u24 = _ at h24
                subst h24
                go_wp2_with fail
                exact ⟨rfl, _, rfl, Below.refl _ _, rfl⟩
              · have h25 := deps_get hd 25 rfl
                change u25 = _ at h25
                subst h25
                go_wp2_with fail
                exact ⟨rfl, _, rfl, Below.refl _ _, rfl⟩
              · have h26 := deps_get hd 26 rfl
                change u26 = _ at h26
                subst h26
                go_wp2_with fail
                exact ⟨rfl, _, rfl, Below.refl _ _, rfl⟩
              · have h26 := deps_get hd 26 rfl
                change u26 = _ at h26
                subst h26
                go_wp2_with fail
                exact ⟨rfl, _, rfl, Below.refl _ _, rfl⟩
              · have h26 := deps_get hd 26 rfl
                change u26 = _ at h26
                subst h26
                have h27 := deps_get hd 27 rfl
                change u27 = _ at h27
                subst h27
                have h28 := deps_get hd 28 rfl
                change u28 = _ at h28
                subst h28
                go_wp2_with (go_at_call 27; refine (Sensors_any p HDS.out l _ _ _ _ _ _ _ W8.heap.size W9 (hpL) hlV hNL hf).mono ?_; rintro e w2 ⟨⟨v2, rfl, hO2⟩, hB2⟩)
                exact ⟨rfl, v2, rfl, hB2, OwnAt.base hO2 hBV⟩
              · have h26 := deps_get hd 26 rfl
                change u26 = _ at h26
                subst h26
                go_wp2_with fail
                exact ⟨rfl, _, rfl, Below.refl _ _, rfl⟩
              · have h26 := deps_get hd 26 rfl
                change u26 = _ at h26
                subst h26
                go_wp2_with fail
                exact ⟨rfl, _, rfl, Below.refl _ _, rfl⟩
              · have h26 := deps_get hd 26 rfl
                change u26 = _ at h26
                subst h26
                have h30 := deps_get hd 30 rfl
                change u30 = _ at h30
                subst h30
                have h31 := deps_get hd 31 rfl
                change u31 = _ at h31
                subst h31
                go_wp2_with (go_at_call 27; refine (Sensors_any p HDS.out a _ _ _ _ _ _ _ N W9 (hpV) haV hNV hfa).mono ?_; rintro e w2 ⟨⟨v2, rfl, hO2⟩, hB2⟩)
                exact ⟨rfl, v2, rfl, hB2, OwnAt.base hO2 hBV⟩
              · have h26 := deps_get hd 26 rfl
                change u26 = _ at h26
                subst h26
                go_wp2_with fail
                exact ⟨rfl, _, rfl, Below.refl _ _, rfl⟩
              · have h26 := deps_get hd 26 rfl
                change u26 = _ at h26
                subst h26
                go_wp2_with fail
                exact ⟨rfl, _, rfl, Below.refl _ _, rfl⟩
              · have h26 := deps_get hd 26 rfl
                change u26 = _ at h26
                subst h26
                have h33 := deps_get hd 33 rfl
                change u33 = _ at h33
                subst h33
                have h34 := deps_get hd 34 rfl
                change u34 = _ at h34
                subst h34
                go_wp2_with (go_at_call 27; refine (Sensors_any p HDS.out b _ _ _ _ _ _ _ N W9 (hpV) hbV hNV hfb).mono ?_; rintro e w2 ⟨⟨v2, rfl, hO2⟩, hB2⟩)
                exact ⟨rfl, v2, rfl, hB2, OwnAt.base hO2 hBV⟩
              · have h26 := deps_get hd 26 rfl
                change u26 = _ at h26
                subst h26
                have h32 := deps_get hd 32 rfl
                change Row _ _ u32 _ at h32
                have h35 := deps_get hd 35 rfl
                change Row _ _ u35 _ at h35
                go_wp2_with (go_at_call 29; refine (runion_any _ _ W.heap.size _ _ _ W9 h32 h35 hBV (HGD.out true a) (HGD.out true b)).mono ?_; rintro e w2 ⟨⟨v2, rfl, hO2⟩, hB2⟩)
                exact ⟨rfl, v2, rfl, hB2, hO2⟩
              · have h26 := deps_get hd 26 rfl
                change u26 = _ at h26
                subst h26
                have h29 := deps_get hd 29 rfl
                change Row _ _ u29 _ at h29
                have h36 := deps_get hd 36 rfl
                change Row _ _ u36 _ at h36
                rw [← HU1.out true] at h36
                go_wp2_with (go_at_call 22; refine (rsame_any (usS (namesOf p) true [] l) _ _ _ _ W9 h29 h36 (HGD.out true l).len).mono ?_; rintro e w2 ⟨rfl, hB2⟩)
                exact ⟨rfl, _, rfl, hB2, rfl⟩
              · have h26 := deps_get hd 26 rfl
                change u26 = _ at h26
                subst h26
                have h37 := deps_get hd 37 rfl
                change u37 = _ at h37
                subst h37
                go_wp2_with fail
                exact ⟨rfl, _, rfl, Below.refl _ _, rfl⟩
              · have h26 := deps_get hd 26 rfl
                change u26 = _ at h26
                subst h26
                have h38 := deps_get hd 38 rfl
                change u38 = _ at h38
                subst h38
                go_wp2_with fail
                exact ⟨rfl, _, rfl, Below.refl _ _, rfl⟩
            case fin =>
              intro vs W9 hvl hVB hall
              obtain ⟨u0, u1, u2, u3, u4, u5, u6, u7, u8, u9, u10, u11, u12, u13, u14, u15, u16, u17, u18, u19, u20, u21, u22, u23, u24, u25, u26, u27, u28, u29, u30, u31, u32, u33, u34, u35, u36, u37, u38, u39, rfl⟩ := vlen40 hvl
              simp only [frameOf, List.zip_cons_cons, List.zip_nil_left, List.foldl_cons, List.foldl_nil, Act.put, List.setIfInBounds_toArray, List.set_cons_succ, List.set_cons_zero]
              have h39 := hall.2.2.2.2.2.2.2.2.2.2.2.2.2.2.2.2.2.2.2.2.2.2.2.2.2.2.2.2.2.2.2.2.2.2.2.2.2.2.2.1
              change u39 = _ at h39
              subst h39
              clear hall
              go_wp2_with fail
              go_roundw
              case rel => exact ⟨k + 1, by omega, by go_num, hBr.trans (hVB.mono hBr.size)⟩
              case measure => simp [intOf]; omega
          · obtain rfl : k = 2 := by omega
            go_wp2_with (go_at_call 11; refine (examples_any _ (HTW.out.later hBQ)).mono ?_; rintro e w9 ⟨rfl, hB9⟩)
            go_ret
            exact ⟨rfl, hWB.trans ((hBQ.trans (hB9.mono hBQ.size)).mono hWB.size)⟩
end Go.Proofs.YtkfdnlfkomhmfaaGreatDoor
