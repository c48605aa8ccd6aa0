/- Lookup: the program's and the reference's. -/
import Derived.Test.YtkfdnlfkomhmfaaGreatDoorTable
import Derived.Deep.QuietTactic
import Derived.BigQuiet
namespace Go.Proofs.YtkfdnlfkomhmfaaGreatDoor
open Go.RowKit
set_option linter.unusedVariables false
set_option linter.unusedSimpArgs false

theorem upB_snd (ds : List Decl) : (upB ds ds.length).map (·.2) = ds.reverse := by
  apply List.ext_getElem
  · simp [upB]
  · intro i h1 h2
    have : i < ds.length := by simpa [upB] using h1
    simp [upB, List.getD, List.getElem?_eq_getElem (show ds.length - 1 - i < ds.length by omega)]
theorem fillF_map (l : List IDecl) : ∀ F, l.foldl (fun F x => Upd F x.2.name (declV x.2)) F = (l.map (·.2)).foldl (fun F d => Upd F d.name (declV d)) F := by
  induction l with
  | nil => intro F; rfl
  | cons x l ih => intro F; simp [ih]
theorem fill_table (ds : List Decl) : fillF (upB ds ds.length) = tableF ds := by
  unfold fillF
  rw [fillF_map, upB_snd, List.foldl_reverse]
  induction ds with
  | nil => rfl
  | cons d ds ih =>
    rw [List.foldr_cons, ih]
    funext s
    by_cases h : s = d.name
    · subst h; simp [Upd, tableF]
    · have : ¬ d.name = s := fun e => h e.symm
      simp [Upd, tableF, h, this]

theorem below_drewN {B : Nat} {w W : World} (h : Below B w W) (n : Nat) : Below B w (W.drewN n) := ⟨h.os, h.tape, h.output, h.size, h.block⟩
def lookK (ds : List Decl) (s : ByteArray) : Int := ((ds.find? fun d => decide (d.name = s)).map (·.kind)).getD 0
def lookI (ds : List Decl) (s : ByteArray) : Int := ((ds.find? fun d => decide (d.name = s)).map (·.index)).getD 0
def lookB (ds : List Decl) (s : ByteArray) : Bool := (ds.find? fun d => decide (d.name = s)).isSome
def lookV (ds : List Decl) (s : ByteArray) : Value := .tuple #[.int .i64 (lookK ds s), .int .i64 (lookI ds s), .bool (lookB ds s)]

theorem wpList_lookupS {P : Program} (w : World) {ops : Array Oper} {rest : List Oper} {o : Oper} {a : Act} {Q : Exit → Act → World → Prop}
    (hg : o.guard = none) (m x : Operand) (t : TypeId) (hop : o.op = Op.lookup t m x true) (k e : TypeId) (ht : P.underlying t = some (.map k e)) (hk : P.underlying k = some .string) {z : Value} (hz : ∀ w, (zeroValue e).run P w = .ok z w)
    (b : Nat) (G : ByteArray → Option Value) (hm : a.eval m = .map (some b)) (hown : MapS w b G) (key : ByteArray) (hx : a.eval x = .string key) (v : Value) (c : Bool) (hv : (G key).getD z = v) (hc : (G key).isSome = c)
    (hK : wpList P ops Q rest (a.put o.dst (.tuple #[v, .bool c])) w) : wpList P ops Q (o :: rest) a w := by
  refine wpList_plain hg fun K' hK' => ?_
  have hrun := hown.lookup ht hk (hz w) key
  rw [hv, hc] at hrun
  unfold Oper.wp
  simp [execOp, hop, hm, hx, hrun, Result.andThen]
  exact hK' _ _ hK

set_option maxRecDepth 100000 in
set_option maxHeartbeats 4000000 in
theorem Lookup_any (p : Prog) (s : ByteArray) (v0 v1 v2 v3 v4 v5 : Value) (N : Nat) (w : World) (hp : ProgAt N w v0 v1 v2 v3 v4 v5 p) (hN : N ≤ w.heap.size) :
    Calls Tryz.prog 15 #[.agg #[v0, v1, v2, v3, v4, v5], .string s] w fun e w' => e = .returned (lookV (namesOf p) s) ∧ Below w.heap.size w w' := by
  obtain ⟨o0, q0, rfl, _, _, n0⟩ := SliceAt.slice hp.consts
  obtain ⟨o1, q1, rfl, _, _, n1⟩ := SliceAt.slice hp.globals
  obtain ⟨o2, q2, rfl, _, _, n2⟩ := SliceAt.slice hp.sensors
  obtain ⟨o3, q3, rfl, _, _, n3⟩ := SliceAt.slice hp.outputs
  obtain ⟨o4, q4, rfl, _, _, n4⟩ := SliceAt.slice hp.channels
  obtain ⟨o5, q5, rfl, _, _, n5⟩ := hp.tasks.slice
  have hz : ∀ w, (zeroValue 86).run Tryz.prog w = .ok (.agg #[.string ⟨#[]⟩, .int .i64 0, .int .i64 0, .int .i64 0]) w := fun w => by
    obtain ⟨i, hi, hz, _⟩ := info_parts infoDC
    simp [zeroValue, typeInfo, hi, hz]
  cases hfd : (namesOf p).find? fun d => decide (d.name = s)
  case none =>
    have hV : lookV (namesOf p) s = .tuple #[.int .i64 0, .int .i64 0, .bool false] := by simp [lookV, lookK, lookI, lookB, hfd]
    have hT : tableF (namesOf p) s = none := by simp [tableF, hfd]
    have HV := Lib.hid hV
    have HT := Lib.hid hT
    clear hV hT hfd
    go_enter Tryz.func15, Tryz.ntmps15
    go_wp2_with (first
      | (go_at_call 33; refine (table_any p _ _ _ _ _ _ N _ (hp.kept (fun b hb => Below.heap_alloc _ _ _ (by omega))) (by simp; omega)).mono ?_; rintro e w1 ⟨b, rfl, hb, hM, hB1⟩; rw [fill_table] at hM)
      | (refine wpList_lookupS _ rfl _ _ 72 rfl 9 86 Tryz.underlying72 Tryz.underlying9 hz _ _ rfl hM _ rfl (.agg #[.string ⟨#[]⟩, .int .i64 0, .int .i64 0, .int .i64 0]) false (by rw [HT.out]; rfl) (by rw [HT.out]; rfl) ?_))
    have hB := (Below.after hB1)
    have x1 : (w1.alloc (.cells #[.string ⟨#[]⟩, .int .i64 0, .int .i64 0, .int .i64 0] 86)).cell? ⟨w1.heap.size, 1, none⟩ = some (.int .i64 0) := cell_first rfl
    have x2 : (w1.alloc (.cells #[.string ⟨#[]⟩, .int .i64 0, .int .i64 0, .int .i64 0] 86)).cell? ⟨w1.heap.size, 2, none⟩ = some (.int .i64 0) := cell_first rfl
    go_quiet (fail)
    go_wp2_with fail
    exact bodyPost_ret (v := .tuple #[.int .i64 0, .int .i64 0, .bool false]) (by simp [results, Tryz.results15, go_sem]) rfl ⟨by rw [HV.out], below_drewN (hB.alloc hB.size _) _⟩
  case some d =>
    have hV : lookV (namesOf p) s = .tuple #[.int .i64 d.kind, .int .i64 d.index, .bool true] := by simp [lookV, lookK, lookI, lookB, hfd]
    have hT : tableF (namesOf p) s = some (declV d) := by simp [tableF, hfd]
    have HV := Lib.hid hV
    have HT := Lib.hid hT
    clear hV hT hfd
    go_enter Tryz.func15, Tryz.ntmps15
    go_wp2_with (first
      | (go_at_call 33; refine (table_any p _ _ _ _ _ _ N _ (hp.kept (fun b hb => Below.heap_alloc _ _ _ (by omega))) (by simp; omega)).mono ?_; rintro e w1 ⟨b, rfl, hb, hM, hB1⟩; rw [fill_table] at hM)
      | (refine wpList_lookupS _ rfl _ _ 72 rfl 9 86 Tryz.underlying72 Tryz.underlying9 hz _ _ rfl hM _ rfl (.agg #[.string d.name, .int .i64 d.kind, .int .i64 d.index, .int .i64 d.pos]) true (by rw [HT.out]; rfl) (by rw [HT.out]; rfl) ?_))
    have hB := (Below.after hB1)
    have x1 : (w1.alloc (.cells #[.string d.name, .int .i64 d.kind, .int .i64 d.index, .int .i64 d.pos] 86)).cell? ⟨w1.heap.size, 1, none⟩ = some (.int .i64 d.kind) := cell_first rfl
    have x2 : (w1.alloc (.cells #[.string d.name, .int .i64 d.kind, .int .i64 d.index, .int .i64 d.pos] 86)).cell? ⟨w1.heap.size, 2, none⟩ = some (.int .i64 d.index) := cell_first rfl
    go_quiet (fail)
    go_wp2_with fail
    exact bodyPost_ret (v := .tuple #[.int .i64 d.kind, .int .i64 d.index, .bool true]) (by simp [results, Tryz.results15, go_sem]) rfl ⟨by rw [HV.out], below_drewN (hB.alloc hB.size _) _⟩
end Go.Proofs.YtkfdnlfkomhmfaaGreatDoor
