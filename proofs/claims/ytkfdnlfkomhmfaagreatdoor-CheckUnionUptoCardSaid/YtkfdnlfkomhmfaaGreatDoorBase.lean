/- The words that the contracts of this seat's functions are said in: Lean mirrors of the Go types, and how a slice of them lies in memory. -/
import Derived.WalkKit
import Derived.Lib.Hide
namespace Go.Proofs.YtkfdnlfkomhmfaaGreatDoor
open Go.RowKit

/-! ### Go's types -/
structure Expr where
  kind : Int
  name : ByteArray
  value : Int
  op : Int
  args : List Expr
  pos : Int
structure Stmt where
  kind : Int
  name : ByteArray
  n : Int
  args : List Expr
  body : List Stmt
  els : List Stmt
  pos : Int
structure Const where
  name : ByteArray
  value : Int
  pos : Int
structure Glob where
  name : ByteArray
  len : Int
  init : Int
  pos : Int
structure Chan where
  name : ByteArray
  cap : Int
  pos : Int
structure Task where
  name : ByteArray
  period : Int
  deadline : Int
  channel : ByteArray
  param : ByteArray
  within : Int
  body : List Stmt
  pos : Int
structure Prog where
  consts : List Const
  globals : List Glob
  sensors : List ByteArray
  outputs : List ByteArray
  channels : List Chan
  tasks : List Task
structure Diag where
  pos : Int
  text : ByteArray
structure Decl where
  name : ByteArray
  kind : Int
  index : Int
  pos : Int

instance : Inhabited Expr := ⟨⟨0, ⟨#[]⟩, 0, 0, [], 0⟩⟩
instance : Inhabited Stmt := ⟨⟨0, ⟨#[]⟩, 0, [], [], [], 0⟩⟩
instance : Inhabited Const := ⟨⟨⟨#[]⟩, 0, 0⟩⟩
instance : Inhabited Glob := ⟨⟨⟨#[]⟩, 0, 0, 0⟩⟩
instance : Inhabited Chan := ⟨⟨⟨#[]⟩, 0, 0⟩⟩
instance : Inhabited Task := ⟨⟨⟨#[]⟩, 0, 0, ⟨#[]⟩, ⟨#[]⟩, 0, [], 0⟩⟩
instance : Inhabited Diag := ⟨⟨0, ⟨#[]⟩⟩⟩
instance : Inhabited Decl := ⟨⟨⟨#[]⟩, 0, 0, 0⟩⟩

def Expr.cells (x : Expr) (va : Value) : List Value := [.int .i64 x.kind, .string x.name, .int .i16 x.value, .int .i64 x.op, va, .int .i64 x.pos]
def Stmt.cells (x : Stmt) (va vb ve : Value) : List Value := [.int .i64 x.kind, .string x.name, .int .i64 x.n, va, vb, ve, .int .i64 x.pos]
def Const.cells (x : Const) : List Value := [.string x.name, .int .i16 x.value, .int .i64 x.pos]
def Glob.cells (x : Glob) : List Value := [.string x.name, .int .i64 x.len, .int .i16 x.init, .int .i64 x.pos]
def Chan.cells (x : Chan) : List Value := [.string x.name, .int .i64 x.cap, .int .i64 x.pos]
def Task.cells (x : Task) (vb : Value) : List Value := [.string x.name, .int .i64 x.period, .int .i64 x.deadline, .string x.channel, .string x.param, .int .i64 x.within, vb, .int .i64 x.pos]
def Diag.cells (x : Diag) : List Value := [.int .i64 x.pos, .string x.text]
def Decl.cells (x : Decl) : List Value := [.string x.name, .int .i64 x.kind, .int .i64 x.index, .int .i64 x.pos]
def strCells (s : ByteArray) : List Value := [.string s]
def intCells (i : Int) : List Value := [.int .i64 i]

/-- a number of Go's int -/
def I64 (i : Int) : Prop := -9223372036854775808 ≤ i ∧ i ≤ 9223372036854775807
def I16 (i : Int) : Prop := -32768 ≤ i ∧ i ≤ 32767
/-- no string that is read is longer -/
def Str (s : ByteArray) : Prop := s.size ≤ 1048576

/-! ### Strings -/
theorem ba_beq (a b : ByteArray) : (a.toList == b.toList) = decide (a = b) := by
  rw [ByteArray.toList_eq, ByteArray.toList_eq, Bool.eq_iff_iff, beq_iff_eq, decide_eq_true_iff]
  constructor
  · intro h
    apply ByteArray.ext
    exact Array.toList_inj.1 h
  · intro h; rw [h]
instance : LawfulBEq ByteArray where
  eq_of_beq {a b} h := by
    rw [beq_toListBytes, ba_beq] at h
    exact of_decide_eq_true h
  rfl {a} := by rw [beq_toListBytes, ba_beq]; simp
theorem ba_ne {a b : ByteArray} (h : a ≠ b) : (a.toList == b.toList) = false := by rw [ba_beq]; simp [h]
theorem ba_eq {a b : ByteArray} (h : a = b) : (a.toList == b.toList) = true := by rw [ba_beq]; simp [h]

theorem ba_nonempty {a : ByteArray} (h : a ≠ ⟨#[]⟩) : a.toList.isEmpty = false := by
  rw [ByteArray.toList_eq]
  cases ha : a.data.toList with
  | nil => exact absurd (ByteArray.ext (Array.toList_inj.1 ha)) h
  | cons x l => rfl

/-! ### Cells in a row -/
/-- the cells of block b from o on -/
def CellsAt (w : World) (b o : Nat) (cs : List Value) : Prop := ∀ j v, cs[j]? = some v → w.cell? ⟨b, o + j, none⟩ = some v

/-- v is a slice of n elements of sz cells each; those of element i are cs i; where there is an element, its block lies below N -/
def SliceAt (N : Nat) (w : World) (v : Value) (n sz : Nat) (cs : Nat → List Value) : Prop :=
  ∃ oa cap, v = .slice oa n cap ∧ n ≤ cap ∧ cap ≤ 9223372036854775807 ∧ n ≤ 1048576 ∧
    (0 < n → ∃ b off, oa = some ⟨b, off, none⟩ ∧ b < N ∧ ∀ i, i < n → (cs i).length = sz ∧ CellsAt w b (off + i * sz) (cs i))

theorem CellsAt.kept {w w' : World} {b o : Nat} {cs : List Value} (h : CellsAt w b o cs) (hb : w'.heap[b]? = w.heap[b]?) : CellsAt w' b o cs :=
  fun j v hv => by rw [World.cell?_of_block (w := w) hb]; exact h j v hv

theorem SliceAt.kept {N : Nat} {w w' : World} {v : Value} {n sz : Nat} {cs : Nat → List Value} (h : SliceAt N w v n sz cs) (hb : ∀ b, b < N → w'.heap[b]? = w.heap[b]?) : SliceAt N w' v n sz cs := by
  obtain ⟨oa, cap, rfl, h1, h2, h3, h4⟩ := h
  refine ⟨oa, cap, rfl, h1, h2, h3, fun hn => ?_⟩
  obtain ⟨b, off, rfl, hb', h5⟩ := h4 hn
  exact ⟨b, off, rfl, hb', fun i hi => ⟨(h5 i hi).1, (h5 i hi).2.kept (hb b hb')⟩⟩

theorem SliceAt.lift {N : Nat} {w w' : World} {v : Value} {n sz : Nat} {cs : Nat → List Value} (h : SliceAt N w v n sz cs) (hb : Below N w w') : SliceAt N w' v n sz cs := h.kept hb.block
theorem SliceAt.mono {N N' : Nat} {w : World} {v : Value} {n sz : Nat} {cs : Nat → List Value} (h : SliceAt N w v n sz cs) (hN : N ≤ N') : SliceAt N' w v n sz cs := by
  obtain ⟨oa, cap, rfl, h1, h2, h3, h4⟩ := h
  refine ⟨oa, cap, rfl, h1, h2, h3, fun hn => ?_⟩
  obtain ⟨b, off, rfl, hb', h5⟩ := h4 hn
  exact ⟨b, off, rfl, by omega, h5⟩

/-! ### Lists -/
/-- slices of what leads no further -/
def FlatAt {α : Type} [Inhabited α] (f : α → List Value) (sz : Nat) (N : Nat) (w : World) (v : Value) (l : List α) : Prop := SliceAt N w v l.length sz (fun i => f (l.getD i default))
abbrev ConstsAt := FlatAt Const.cells 3
abbrev GlobsAt := FlatAt Glob.cells 4
abbrev ChansAt := FlatAt Chan.cells 3
abbrev DiagsAt := FlatAt Diag.cells 2
abbrev DeclsAt := FlatAt Decl.cells 4
instance : Inhabited ByteArray := ⟨⟨#[]⟩⟩
abbrev StrsAt := FlatAt strCells 1
abbrev IntsAt := FlatAt intCells 1

inductive ExprsAt (N : Nat) (w : World) : Value → List Expr → Prop
  | mk (v : Value) (l : List Expr) (vs : Nat → Value) (h : SliceAt N w v l.length 6 (fun i => (l.getD i default).cells (vs i)))
      (wf : ∀ i, i < l.length → I64 (l.getD i default).kind ∧ Str (l.getD i default).name ∧ I16 (l.getD i default).value ∧ I64 (l.getD i default).op ∧ I64 (l.getD i default).pos)
      (sub : ∀ i, i < l.length → ExprsAt N w (vs i) (l.getD i default).args) : ExprsAt N w v l
inductive StmtsAt (N : Nat) (w : World) : Value → List Stmt → Prop
  | mk (v : Value) (l : List Stmt) (va vb ve : Nat → Value) (h : SliceAt N w v l.length 7 (fun i => (l.getD i default).cells (va i) (vb i) (ve i)))
      (wf : ∀ i, i < l.length → I64 (l.getD i default).kind ∧ Str (l.getD i default).name ∧ I64 (l.getD i default).n ∧ I64 (l.getD i default).pos)
      (args : ∀ i, i < l.length → ExprsAt N w (va i) (l.getD i default).args)
      (body : ∀ i, i < l.length → StmtsAt N w (vb i) (l.getD i default).body)
      (els : ∀ i, i < l.length → StmtsAt N w (ve i) (l.getD i default).els) : StmtsAt N w v l

/-- an expression's own numbers and name are in range -/
def Expr.Wf (x : Expr) : Prop := I64 x.kind ∧ Str x.name ∧ I16 x.value ∧ I64 x.op ∧ I64 x.pos
def Stmt.Wf (x : Stmt) : Prop := I64 x.kind ∧ Str x.name ∧ I64 x.n ∧ I64 x.pos
def Const.Wf (x : Const) : Prop := Str x.name ∧ I16 x.value ∧ I64 x.pos
def Glob.Wf (x : Glob) : Prop := Str x.name ∧ I64 x.len ∧ I16 x.init ∧ I64 x.pos
def Chan.Wf (x : Chan) : Prop := Str x.name ∧ I64 x.cap ∧ I64 x.pos
def Task.Wf (x : Task) : Prop := Str x.name ∧ I64 x.period ∧ I64 x.deadline ∧ Str x.channel ∧ Str x.param ∧ I64 x.within ∧ I64 x.pos

theorem ExprsAt.kept {N : Nat} {w w' : World} {v : Value} {l : List Expr} (h : ExprsAt N w v l) (hb : ∀ b, b < N → w'.heap[b]? = w.heap[b]?) : ExprsAt N w' v l := by
  induction h with
  | mk v l vs h wf sub ih => exact .mk v l vs (h.kept hb) wf ih
theorem ExprsAt.lift {N : Nat} {w w' : World} {v : Value} {l : List Expr} (h : ExprsAt N w v l) (hb : Below N w w') : ExprsAt N w' v l := h.kept hb.block
theorem ExprsAt.mono {N N' : Nat} {w : World} {v : Value} {l : List Expr} (h : ExprsAt N w v l) (hN : N ≤ N') : ExprsAt N' w v l := by
  induction h with
  | mk v l vs h wf sub ih => exact .mk v l vs (h.mono hN) wf ih
theorem StmtsAt.kept {N : Nat} {w w' : World} {v : Value} {l : List Stmt} (h : StmtsAt N w v l) (hb : ∀ b, b < N → w'.heap[b]? = w.heap[b]?) : StmtsAt N w' v l := by
  induction h with
  | mk v l va vb ve h wf args body els ih1 ih2 => exact .mk v l va vb ve (h.kept hb) wf (fun i hi => (args i hi).kept hb) ih1 ih2
theorem StmtsAt.lift {N : Nat} {w w' : World} {v : Value} {l : List Stmt} (h : StmtsAt N w v l) (hb : Below N w w') : StmtsAt N w' v l := h.kept hb.block
theorem StmtsAt.mono {N N' : Nat} {w : World} {v : Value} {l : List Stmt} (h : StmtsAt N w v l) (hN : N ≤ N') : StmtsAt N' w v l := by
  induction h with
  | mk v l va vb ve h wf args body els ih1 ih2 => exact .mk v l va vb ve (h.mono hN) wf (fun i hi => (args i hi).mono hN) ih1 ih2

/-- a task's slice: the bodies lead further -/
def TasksAt (N : Nat) (w : World) (v : Value) (l : List Task) : Prop :=
  ∃ vb : Nat → Value, SliceAt N w v l.length 8 (fun i => (l.getD i default).cells (vb i)) ∧ ∀ i, i < l.length → (l.getD i default).Wf ∧ StmtsAt N w (vb i) (l.getD i default).body
theorem TasksAt.kept {N : Nat} {w w' : World} {v : Value} {l : List Task} (h : TasksAt N w v l) (hb : ∀ b, b < N → w'.heap[b]? = w.heap[b]?) : TasksAt N w' v l := by
  obtain ⟨vb, h1, h2⟩ := h
  exact ⟨vb, h1.kept hb, fun i hi => ⟨(h2 i hi).1, (h2 i hi).2.kept hb⟩⟩
theorem TasksAt.lift {N : Nat} {w w' : World} {v : Value} {l : List Task} (h : TasksAt N w v l) (hb : Below N w w') : TasksAt N w' v l := h.kept hb.block
theorem TasksAt.mono {N N' : Nat} {w : World} {v : Value} {l : List Task} (h : TasksAt N w v l) (hN : N ≤ N') : TasksAt N' w v l := by
  obtain ⟨vb, h1, h2⟩ := h
  exact ⟨vb, h1.mono hN, fun i hi => ⟨(h2 i hi).1, (h2 i hi).2.mono hN⟩⟩

/-- a program by value -/
structure ProgAt (N : Nat) (w : World) (v0 v1 v2 v3 v4 v5 : Value) (p : Prog) : Prop where
  consts : ConstsAt N w v0 p.consts
  globals : GlobsAt N w v1 p.globals
  sensors : StrsAt N w v2 p.sensors
  outputs : StrsAt N w v3 p.outputs
  channels : ChansAt N w v4 p.channels
  tasks : TasksAt N w v5 p.tasks
  wfc : ∀ i, i < p.consts.length → (p.consts.getD i default).Wf
  wfg : ∀ i, i < p.globals.length → (p.globals.getD i default).Wf
  wfs : ∀ i, i < p.sensors.length → Str (p.sensors.getD i default)
  wfo : ∀ i, i < p.outputs.length → Str (p.outputs.getD i default)
  wfh : ∀ i, i < p.channels.length → (p.channels.getD i default).Wf

theorem ProgAt.kept {N : Nat} {w w' : World} {v0 v1 v2 v3 v4 v5 : Value} {p : Prog} (h : ProgAt N w v0 v1 v2 v3 v4 v5 p) (hb : ∀ b, b < N → w'.heap[b]? = w.heap[b]?) : ProgAt N w' v0 v1 v2 v3 v4 v5 p :=
  ⟨SliceAt.kept h.consts hb, SliceAt.kept h.globals hb, SliceAt.kept h.sensors hb, SliceAt.kept h.outputs hb, SliceAt.kept h.channels hb, h.tasks.kept hb, h.wfc, h.wfg, h.wfs, h.wfo, h.wfh⟩
theorem ProgAt.lift {N : Nat} {w w' : World} {v0 v1 v2 v3 v4 v5 : Value} {p : Prog} (h : ProgAt N w v0 v1 v2 v3 v4 v5 p) (hb : Below N w w') : ProgAt N w' v0 v1 v2 v3 v4 v5 p := h.kept hb.block
theorem ProgAt.mono {N N' : Nat} {w : World} {v0 v1 v2 v3 v4 v5 : Value} {p : Prog} (h : ProgAt N w v0 v1 v2 v3 v4 v5 p) (hN : N ≤ N') : ProgAt N' w v0 v1 v2 v3 v4 v5 p :=
  ⟨SliceAt.mono h.consts hN, SliceAt.mono h.globals hN, SliceAt.mono h.sensors hN, SliceAt.mono h.outputs hN, SliceAt.mono h.channels hN, h.tasks.mono hN, h.wfc, h.wfg, h.wfs, h.wfo, h.wfh⟩
end Go.Proofs.YtkfdnlfkomhmfaaGreatDoor
