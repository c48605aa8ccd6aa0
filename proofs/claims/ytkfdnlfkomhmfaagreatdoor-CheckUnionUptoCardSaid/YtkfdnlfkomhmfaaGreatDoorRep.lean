/- The checker's state, and its smaller methods: report, within, kind, use. -/
import Derived.Test.YtkfdnlfkomhmfaaGreatDoorAdd
import Derived.Test.YtkfdnlfkomhmfaaGreatDoorLook
namespace Go.Proofs.YtkfdnlfkomhmfaaGreatDoor
open Go.RowKit
set_option linter.unusedVariables false
set_option linter.unusedSimpArgs false

open Go.MapKept in
theorem MapS.lookup1 {P : Program} {w : World} {b : Nat} {F : ByteArray → Option Value} (h : MapS w b F) {t k e : TypeId} (ht : P.underlying t = some (.map k e)) (hk : P.underlying k = some .string)
    {z : Value} (hz : (zeroValue e).run P w = .ok z w) (s : ByteArray) : (Instr.lookup t (.map (some b)) (.string s) false).run P w = .ok ((F s).getD z) w := by
  obtain ⟨es, c, hb, hs, hF⟩ := h
  have hck := run_checkKey (P := P) (w := w) (kt := k) (d := .string) (k := .string s) hk trivial es.isEmpty 9999
  rcases findNow_str s .nilFunc es.toList hs 0 with ⟨h1, h2⟩ | ⟨j, v, e', h1, h2, _⟩
  · rw [hF, h2]
    simp [Instr.lookup, run_underlying ht, Go.MapKept.run_getObj_map hb, hck, run_findKey hk h1, hz, Result.andThen]
  · rw [hF, h2]
    simp [Instr.lookup, run_underlying ht, Go.MapKept.run_getObj_map hb, hck, run_findKey hk h1, Result.andThen]
theorem wpList_lookup1S {P : Program} (w : World) {ops : Array Oper} {rest : List Oper} {o : Oper} {a : Act} {Q : Exit → Act → World → Prop}
    (hg : o.guard = none) (m x : Operand) (t : TypeId) (hop : o.op = Op.lookup t m x false) (k e : TypeId) (ht : P.underlying t = some (.map k e)) (hk : P.underlying k = some .string) {z : Value} (hz : ∀ w, (zeroValue e).run P w = .ok z w)
    (b : Nat) (G : ByteArray → Option Value) (hm : a.eval m = .map (some b)) (hown : MapS w b G) (key : ByteArray) (hx : a.eval x = .string key) (v : Value) (hv : (G key).getD z = v)
    (hK : wpList P ops Q rest (a.put o.dst v) w) : wpList P ops Q (o :: rest) a w := by
  refine wpList_plain hg fun K' hK' => ?_
  have hrun := hown.lookup1 ht hk (hz w) key
  rw [hv] at hrun
  unfold Oper.wp
  simp [execOp, hop, hm, hx, hrun, Result.andThen]
  exact hK' _ _ hK

/-- what a check keeps: the program's slices, the table, the bounds of memory -/
structure CkK where
  v0 : Value
  v1 : Value
  v2 : Value
  v3 : Value
  v4 : Value
  v5 : Value
  m : Nat
  N : Nat
  B : Nat
  p : Prog
/-- what a check turns -/
structure CkS where
  out : List Diag
  locals : List ByteArray
  timed : Bool
  single : Bool
  times : Int
structure Chk (K : CkK) (w : World) (b : Nat) (s : CkS) : Prop where
  prog : ProgAt K.N w K.v0 K.v1 K.v2 K.v3 K.v4 K.v5 K.p
  hN : K.N ≤ K.B
  map : MapS w K.m (tableF (namesOf K.p))
  hm : K.m < K.B
  ck : ∃ vl vs, Pk K.B w b #[K.v0, K.v1, K.v2, K.v3, K.v4, K.v5, .map (some K.m), vl, vs, .bool s.timed, .bool s.single, .int .i64 s.times] s.out s.locals
abbrev CMut := Mut 7 8
theorem Chk.lt {K : CkK} {w : World} {b : Nat} {s : CkS} (h : Chk K w b s) : b < w.heap.size := by obtain ⟨vl, vs, hk⟩ := h.ck; exact hk.lt
theorem Chk.low {K : CkK} {w : World} {b : Nat} {s : CkS} (h : Chk K w b s) : K.B ≤ b := by obtain ⟨vl, vs, hk⟩ := h.ck; exact hk.low
theorem Chk.hB {K : CkK} {w : World} {b : Nat} {s : CkS} (h : Chk K w b s) : K.B ≤ w.heap.size := Nat.le_trans h.low (Nat.le_of_lt h.lt)
theorem Chk.loc {K : CkK} {w : World} {b : Nat} {s : CkS} (h : Chk K w b s) (cs' : Array Value) (T' : TypeId) : Lcl 7 8 b (w.alloc (.cells cs' T')) w.heap.size cs' T' := by obtain ⟨vl, vs, hk⟩ := h.ck; exact hk.local cs' T'
theorem Chk.later {K : CkK} {w w' : World} {b : Nat} {s : CkS} (h : Chk K w b s) (hb : Below w.heap.size w w') : Chk K w' b s := by
  obtain ⟨vl, vs, hk⟩ := h.ck
  exact ⟨h.prog.lift (hb.mono (Nat.le_trans h.hN h.hB)), h.hN, h.map.later hb, h.hm, vl, vs, hk.later hb⟩
theorem Chk.mutOf {K : CkK} {w w' : World} {b : Nat} {s : CkS} (h : Chk K w b s) (hb : Below w.heap.size w w') : CMut b w w' := Mut.of_below hb h.lt
theorem Chk.below {K : CkK} {w w' : World} {b : Nat} {s : CkS} (h : Chk K w b s) (hm : CMut b w w') : Below K.B w w' := by
  obtain ⟨vl, vs, hk⟩ := h.ck
  exact hk.below hm h.hB
/-- the box turned, all else by what the turn leaves -/
theorem Chk.turn {K : CkK} {w w' : World} {b : Nat} {s s' : CkS} (h : Chk K w b s) (hm : CMut b w w')
    (hc : ∃ vl vs, Pk K.B w' b #[K.v0, K.v1, K.v2, K.v3, K.v4, K.v5, .map (some K.m), vl, vs, .bool s'.timed, .bool s'.single, .int .i64 s'.times] s'.out s'.locals) : Chk K w' b s' :=
  have hb := h.below hm
  ⟨h.prog.lift (hb.mono h.hN), h.hN, h.map.kept (hb.block _ h.hm), h.hm, hc⟩

def CkS.add (s : CkS) (ds : List Diag) : CkS := { s with out := addAll s.out ds }
theorem CkS.add_nil (s : CkS) : s.add [] = s := rfl
theorem CkS.add_app (s : CkS) (a b : List Diag) : s.add (a ++ b) = (s.add a).add b := by simp [CkS.add, addAll_app]
theorem CkS.add_len (s : CkS) (a : List Diag) : (s.add a).out.length ≤ s.out.length + a.length := addAll_len _ _
def rep (bad : Bool) (pos : Int) (text : ByteArray) : List Diag := if bad then [⟨pos, text⟩] else []
theorem rep_len (bad : Bool) (pos : Int) (text : ByteArray) : (rep bad pos text).length ≤ 1 := by cases bad <;> simp [rep]

theorem report_any {K : CkK} {w : World} {b : Nat} {s : CkS} (h : Chk K w b s) (bad : Bool) (pos : Int) (text : ByteArray) (hl : s.out.length ≤ 1000000) :
    Calls Tryz.prog 68 #[.pointer (some ⟨b, 0, none⟩), .bool bad, .int .i64 pos, .string text] w fun e w' => e = .returned (.tuple #[]) ∧ Chk K w' b (s.add (rep bad pos text)) ∧ CMut b w w' := by
  obtain ⟨vl, vs, hk⟩ := h.ck
  cases bad
  · have hs := Lib.hid h
    clear h hk
    go_enter Tryz.func68, Tryz.ntmps68
    go_wp2_with fail
    go_end0
    exact ⟨rfl, hs.out, Mut.refl _ _ _ _⟩
  · have hA := Lib.hid (Add_any hk ⟨pos, text⟩ hl)
    go_enter Tryz.func68, Tryz.ntmps68
    go_wp2_with (go_at_call 111; refine hA.out.mono ?_; rintro e w1 ⟨rfl, ⟨v, hv⟩, hm⟩)
    go_end0
    exact ⟨rfl, h.turn hm ⟨v, vs, hv⟩, hm⟩

theorem within_any (n low high : Int) (w : World) : Calls Tryz.prog 73 #[.int .i64 n, .int .i64 low, .int .i64 high] w fun e w' => e = .returned (.bool (decide (low ≤ n ∧ n ≤ high))) ∧ w' = w := by
  by_cases h1 : low ≤ n
  · by_cases h2 : n ≤ high
    · have t1 := Lib.hid (show decide (low ≤ n ∧ n ≤ high) = true by simp [h1, h2])
      go_enter Tryz.func73, Tryz.ntmps73
      go_wp2_with fail
      go_ret
      exact ⟨ret_bool (by rw [t1.out]), rfl⟩
    · have t1 := Lib.hid (show decide (low ≤ n ∧ n ≤ high) = false by simp [h2])
      go_enter Tryz.func73, Tryz.ntmps73
      go_wp2_with fail
      go_ret
      exact ⟨ret_bool (by simp; omega), rfl⟩
  · have t1 := Lib.hid (show decide (low ≤ n ∧ n ≤ high) = false by simp [h1])
    go_enter Tryz.func73, Tryz.ntmps73
    go_wp2_with fail
    go_ret
    exact ⟨ret_bool (by simp; omega), rfl⟩

theorem field_kind (a : ByteArray) (b c d : Int) (w : World) : (Instr.field 86 (.agg #[.string a, .int .i64 b, .int .i64 c, .int .i64 d]) 1).run Tryz.prog w = .ok (.int .i64 b) w := by kernel_rfl
/-- the kind of what a name refers to -/
def kindV (p : Prog) (ls : List ByteArray) (x : ByteArray) : Int := if x ∈ ls then 7 else lookK (namesOf p) x
set_option maxRecDepth 100000 in
set_option maxHeartbeats 1000000 in
theorem kind_any {K : CkK} {w : World} {b : Nat} {s : CkS} (h : Chk K w b s) (x : ByteArray) (hl : s.locals.length ≤ 1000000) :
    Calls Tryz.prog 114 #[.pointer (some ⟨b, 0, none⟩), .string x] w fun e w' => e = .returned (.int .i64 (kindV K.p s.locals x)) ∧ w' = w := by
  obtain ⟨vl, vs, hk⟩ := h.ck
  obtain ⟨va, vb, q1, q2, q3, q4, q5, q6, q7⟩ := hk.ex
  obtain rfl : vs = vb := Option.some.inj q2
  obtain ⟨oa, cap, rfl, _, _⟩ := q4.slice
  have c8 : w.cell? ⟨b, 8, none⟩ = some (.slice oa s.locals.length cap) := hk.cell q2
  have c6 : w.cell? ⟨b, 6, none⟩ = some (.map (some K.m)) := hk.cell rfl
  have hF := Lib.hid (ContainsS_any _ oa _ cap s.locals x w (q4.flat str_len (by omega)) rfl)
  have hM := h.map
  have hfk := field_kind
  have hz : ∀ w, (zeroValue 86).run Tryz.prog w = .ok (.agg #[.string ⟨#[]⟩, .int .i64 0, .int .i64 0, .int .i64 0]) w := fun w => by
    obtain ⟨i, hi, hz, _⟩ := info_parts infoDC
    simp [zeroValue, typeInfo, hi, hz]
  by_cases hx : x ∈ s.locals
  · have hd : decide (x ∈ s.locals) = true := decide_eq_true hx
    have HR := Lib.hid (show kindV K.p s.locals x = 7 from if_pos hx)
    rw [hd] at hF
    clear hx hd q1 q2 q3 q4 q5 q6 q7 hk h hM
    go_enter Tryz.func114, Tryz.ntmps114
    go_wp2_with (go_at_call 105; refine hF.out.mono ?_; rintro e w' ⟨rfl, rfl⟩)
    go_ret
    exact ⟨ret_int HR.out.symm, rfl⟩
  · have hd : decide (x ∈ s.locals) = false := decide_eq_false hx
    have hr : kindV K.p s.locals x = lookK (namesOf K.p) x := if_neg hx
    rw [hd] at hF
    cases hfd : (namesOf K.p).find? fun d => decide (d.name = x)
    case none =>
      have HR := Lib.hid (show kindV K.p s.locals x = 0 by rw [hr]; simp [lookK, hfd])
      have HT := Lib.hid (show tableF (namesOf K.p) x = none by simp [tableF, hfd])
      clear hx hd q1 q2 q3 q4 q5 q6 q7 hk h hr hfd
      go_enter Tryz.func114, Tryz.ntmps114
      go_wp2_with (first
        | (go_at_call 105; refine hF.out.mono ?_; rintro e w' ⟨rfl, rfl⟩)
        | (refine wpList_lookup1S _ rfl _ _ 72 rfl 9 86 Tryz.underlying72 Tryz.underlying9 hz _ _ rfl hM _ rfl (.agg #[.string ⟨#[]⟩, .int .i64 0, .int .i64 0, .int .i64 0]) (by rw [HT.out]; rfl) ?_))
      go_ret
      exact ⟨ret_int HR.out.symm, rfl⟩
    case some d =>
      have HR := Lib.hid (show kindV K.p s.locals x = d.kind by rw [hr]; simp [lookK, hfd])
      have HT := Lib.hid (show tableF (namesOf K.p) x = some (declV d) by simp [tableF, hfd])
      clear hx hd q1 q2 q3 q4 q5 q6 q7 hk h hr hfd
      go_enter Tryz.func114, Tryz.ntmps114
      go_wp2_with (first
        | (go_at_call 105; refine hF.out.mono ?_; rintro e w' ⟨rfl, rfl⟩)
        | (refine wpList_lookup1S _ rfl _ _ 72 rfl 9 86 Tryz.underlying72 Tryz.underlying9 hz _ _ rfl hM _ rfl (.agg #[.string d.name, .int .i64 d.kind, .int .i64 d.index, .int .i64 d.pos]) (by rw [HT.out]; rfl) ?_))
      go_ret
      exact ⟨ret_int HR.out.symm, rfl⟩
end Go.Proofs.YtkfdnlfkomhmfaaGreatDoor
