/- An element of a slice, opened: its cells as the walk spells them. -/
import Derived.Test.YtkfdnlfkomhmfaaGreatDoorBase
namespace Go.Proofs.YtkfdnlfkomhmfaaGreatDoor
open Go.RowKit

theorem getD_some {α : Type} [Inhabited α] {l : List α} {k : Nat} (hk : k < l.length) : l[k]? = some (l.getD k default) := by
  simp [List.getD, List.getElem?_eq_getElem hk]

theorem ExprsAt.slice {N : Nat} {w : World} {v : Value} {l : List Expr} (h : ExprsAt N w v l) : ∃ oa cap, v = .slice oa l.length cap ∧ l.length ≤ cap ∧ cap ≤ 9223372036854775807 ∧ l.length ≤ 1048576 := by
  cases h with
  | mk _ _ vs h wf sub => obtain ⟨oa, cap, rfl, h1, h2, h3, _⟩ := h; exact ⟨oa, cap, rfl, h1, h2, h3⟩
theorem StmtsAt.slice {N : Nat} {w : World} {v : Value} {l : List Stmt} (h : StmtsAt N w v l) : ∃ oa cap, v = .slice oa l.length cap ∧ l.length ≤ cap ∧ cap ≤ 9223372036854775807 ∧ l.length ≤ 1048576 := by
  cases h with
  | mk _ _ _ _ _ h wf _ _ _ => obtain ⟨oa, cap, rfl, h1, h2, h3, _⟩ := h; exact ⟨oa, cap, rfl, h1, h2, h3⟩
theorem SliceAt.slice {N : Nat} {w : World} {v : Value} {n sz : Nat} {cs : Nat → List Value} (h : SliceAt N w v n sz cs) : ∃ oa cap, v = .slice oa n cap ∧ n ≤ cap ∧ cap ≤ 9223372036854775807 ∧ n ≤ 1048576 := by
  obtain ⟨oa, cap, rfl, h1, h2, h3, _⟩ := h; exact ⟨oa, cap, rfl, h1, h2, h3⟩
theorem TasksAt.slice {N : Nat} {w : World} {v : Value} {l : List Task} (h : TasksAt N w v l) : ∃ oa cap, v = .slice oa l.length cap ∧ l.length ≤ cap ∧ cap ≤ 9223372036854775807 ∧ l.length ≤ 1048576 := by
  obtain ⟨_, h, _⟩ := h; exact h.slice

theorem SliceAt.at {N : Nat} {w : World} {oa : Option Addr} {n n' cap sz : Nat} {cs : Nat → List Value} (h : SliceAt N w (.slice oa n' cap) n sz cs) {k : Nat} (hk : k < n) : ∃ b off, oa = some ⟨b, off, none⟩ ∧ b < N ∧ CellsAt w b (off + k * sz) (cs k) := by
  obtain ⟨oa', cap', e, _, _, _, h4⟩ := h
  cases e
  obtain ⟨b, off, rfl, hb, h5⟩ := h4 (by omega)
  exact ⟨b, off, rfl, hb, (h5 k hk).2⟩

theorem ExprsAt.at {N : Nat} {w : World} {oa : Option Addr} {n cap : Nat} {l : List Expr} (h : ExprsAt N w (.slice oa n cap) l) {k : Nat} (hk : k < l.length) :
    ∃ x b off va, l[k]? = some x ∧ oa = some ⟨b, off, none⟩ ∧ b < N ∧ x.Wf ∧ ExprsAt N w va x.args ∧
      w.cell? ⟨b, off + k * 6, none⟩ = some (.int .i64 x.kind) ∧ w.cell? ⟨b, off + k * 6 + 1, none⟩ = some (.string x.name) ∧ w.cell? ⟨b, off + k * 6 + 2, none⟩ = some (.int .i16 x.value) ∧
      w.cell? ⟨b, off + k * 6 + 3, none⟩ = some (.int .i64 x.op) ∧ w.cell? ⟨b, off + k * 6 + 4, none⟩ = some va ∧ w.cell? ⟨b, off + k * 6 + 5, none⟩ = some (.int .i64 x.pos) := by
  cases h with
  | mk _ _ vs h wf sub =>
    obtain ⟨b, off, rfl, hb, hc⟩ := h.at hk
    exact ⟨l.getD k default, b, off, vs k, getD_some hk, rfl, hb, wf k hk, sub k hk, hc 0 _ rfl, hc 1 _ rfl, hc 2 _ rfl, hc 3 _ rfl, hc 4 _ rfl, hc 5 _ rfl⟩

theorem StmtsAt.at {N : Nat} {w : World} {oa : Option Addr} {n cap : Nat} {l : List Stmt} (h : StmtsAt N w (.slice oa n cap) l) {k : Nat} (hk : k < l.length) :
    ∃ x b off va vb ve, l[k]? = some x ∧ oa = some ⟨b, off, none⟩ ∧ b < N ∧ x.Wf ∧ ExprsAt N w va x.args ∧ StmtsAt N w vb x.body ∧ StmtsAt N w ve x.els ∧
      w.cell? ⟨b, off + k * 7, none⟩ = some (.int .i64 x.kind) ∧ w.cell? ⟨b, off + k * 7 + 1, none⟩ = some (.string x.name) ∧ w.cell? ⟨b, off + k * 7 + 2, none⟩ = some (.int .i64 x.n) ∧
      w.cell? ⟨b, off + k * 7 + 3, none⟩ = some va ∧ w.cell? ⟨b, off + k * 7 + 4, none⟩ = some vb ∧ w.cell? ⟨b, off + k * 7 + 5, none⟩ = some ve ∧ w.cell? ⟨b, off + k * 7 + 6, none⟩ = some (.int .i64 x.pos) := by
  cases h with
  | mk _ _ va vb ve h wf h1 h2 h3 =>
    obtain ⟨b, off, rfl, hb, hc⟩ := h.at hk
    exact ⟨l.getD k default, b, off, va k, vb k, ve k, getD_some hk, rfl, hb, wf k hk, h1 k hk, h2 k hk, h3 k hk, hc 0 _ rfl, hc 1 _ rfl, hc 2 _ rfl, hc 3 _ rfl, hc 4 _ rfl, hc 5 _ rfl, hc 6 _ rfl⟩

theorem TasksAt.at {N : Nat} {w : World} {oa : Option Addr} {n cap : Nat} {l : List Task} (h : TasksAt N w (.slice oa n cap) l) {k : Nat} (hk : k < l.length) :
    ∃ x b off vb, l[k]? = some x ∧ oa = some ⟨b, off, none⟩ ∧ b < N ∧ x.Wf ∧ StmtsAt N w vb x.body ∧
      w.cell? ⟨b, off + k * 8, none⟩ = some (.string x.name) ∧ w.cell? ⟨b, off + k * 8 + 1, none⟩ = some (.int .i64 x.period) ∧ w.cell? ⟨b, off + k * 8 + 2, none⟩ = some (.int .i64 x.deadline) ∧
      w.cell? ⟨b, off + k * 8 + 3, none⟩ = some (.string x.channel) ∧ w.cell? ⟨b, off + k * 8 + 4, none⟩ = some (.string x.param) ∧ w.cell? ⟨b, off + k * 8 + 5, none⟩ = some (.int .i64 x.within) ∧ w.cell? ⟨b, off + k * 8 + 6, none⟩ = some vb ∧ w.cell? ⟨b, off + k * 8 + 7, none⟩ = some (.int .i64 x.pos) := by
  obtain ⟨vb, h, h1⟩ := h
  obtain ⟨b, off, rfl, hb, hc⟩ := h.at hk
  exact ⟨l.getD k default, b, off, vb k, getD_some hk, rfl, hb, (h1 k hk).1, (h1 k hk).2, hc 0 _ rfl, hc 1 _ rfl, hc 2 _ rfl, hc 3 _ rfl, hc 4 _ rfl, hc 5 _ rfl, hc 6 _ rfl, hc 7 _ rfl⟩

theorem ConstsAt.at {N : Nat} {w : World} {oa : Option Addr} {n cap : Nat} {l : List Const} (h : ConstsAt N w (.slice oa n cap) l) {k : Nat} (hk : k < l.length) :
    ∃ x b off, l[k]? = some x ∧ oa = some ⟨b, off, none⟩ ∧ b < N ∧
      w.cell? ⟨b, off + k * 3, none⟩ = some (.string x.name) ∧ w.cell? ⟨b, off + k * 3 + 1, none⟩ = some (.int .i16 x.value) ∧ w.cell? ⟨b, off + k * 3 + 2, none⟩ = some (.int .i64 x.pos) := by
  obtain ⟨b, off, rfl, hb, hc⟩ := SliceAt.at h hk
  exact ⟨l.getD k default, b, off, getD_some hk, rfl, hb, hc 0 _ rfl, hc 1 _ rfl, hc 2 _ rfl⟩
theorem GlobsAt.at {N : Nat} {w : World} {oa : Option Addr} {n cap : Nat} {l : List Glob} (h : GlobsAt N w (.slice oa n cap) l) {k : Nat} (hk : k < l.length) :
    ∃ x b off, l[k]? = some x ∧ oa = some ⟨b, off, none⟩ ∧ b < N ∧
      w.cell? ⟨b, off + k * 4, none⟩ = some (.string x.name) ∧ w.cell? ⟨b, off + k * 4 + 1, none⟩ = some (.int .i64 x.len) ∧ w.cell? ⟨b, off + k * 4 + 2, none⟩ = some (.int .i16 x.init) ∧ w.cell? ⟨b, off + k * 4 + 3, none⟩ = some (.int .i64 x.pos) := by
  obtain ⟨b, off, rfl, hb, hc⟩ := SliceAt.at h hk
  exact ⟨l.getD k default, b, off, getD_some hk, rfl, hb, hc 0 _ rfl, hc 1 _ rfl, hc 2 _ rfl, hc 3 _ rfl⟩
theorem ChansAt.at {N : Nat} {w : World} {oa : Option Addr} {n cap : Nat} {l : List Chan} (h : ChansAt N w (.slice oa n cap) l) {k : Nat} (hk : k < l.length) :
    ∃ x b off, l[k]? = some x ∧ oa = some ⟨b, off, none⟩ ∧ b < N ∧
      w.cell? ⟨b, off + k * 3, none⟩ = some (.string x.name) ∧ w.cell? ⟨b, off + k * 3 + 1, none⟩ = some (.int .i64 x.cap) ∧ w.cell? ⟨b, off + k * 3 + 2, none⟩ = some (.int .i64 x.pos) := by
  obtain ⟨b, off, rfl, hb, hc⟩ := SliceAt.at h hk
  exact ⟨l.getD k default, b, off, getD_some hk, rfl, hb, hc 0 _ rfl, hc 1 _ rfl, hc 2 _ rfl⟩
theorem DiagsAt.at {N : Nat} {w : World} {oa : Option Addr} {n cap : Nat} {l : List Diag} (h : DiagsAt N w (.slice oa n cap) l) {k : Nat} (hk : k < l.length) :
    ∃ x b off, l[k]? = some x ∧ oa = some ⟨b, off, none⟩ ∧ b < N ∧
      w.cell? ⟨b, off + k * 2, none⟩ = some (.int .i64 x.pos) ∧ w.cell? ⟨b, off + k * 2 + 1, none⟩ = some (.string x.text) := by
  obtain ⟨b, off, rfl, hb, hc⟩ := SliceAt.at h hk
  exact ⟨l.getD k default, b, off, getD_some hk, rfl, hb, hc 0 _ rfl, hc 1 _ rfl⟩
theorem DeclsAt.at {N : Nat} {w : World} {oa : Option Addr} {n cap : Nat} {l : List Decl} (h : DeclsAt N w (.slice oa n cap) l) {k : Nat} (hk : k < l.length) :
    ∃ x b off, l[k]? = some x ∧ oa = some ⟨b, off, none⟩ ∧ b < N ∧
      w.cell? ⟨b, off + k * 4, none⟩ = some (.string x.name) ∧ w.cell? ⟨b, off + k * 4 + 1, none⟩ = some (.int .i64 x.kind) ∧ w.cell? ⟨b, off + k * 4 + 2, none⟩ = some (.int .i64 x.index) ∧ w.cell? ⟨b, off + k * 4 + 3, none⟩ = some (.int .i64 x.pos) := by
  obtain ⟨b, off, rfl, hb, hc⟩ := SliceAt.at h hk
  exact ⟨l.getD k default, b, off, getD_some hk, rfl, hb, hc 0 _ rfl, hc 1 _ rfl, hc 2 _ rfl, hc 3 _ rfl⟩
theorem StrsAt.at {N : Nat} {w : World} {oa : Option Addr} {n cap : Nat} {l : List ByteArray} (h : StrsAt N w (.slice oa n cap) l) {k : Nat} (hk : k < l.length) :
    ∃ x b off, l[k]? = some x ∧ oa = some ⟨b, off, none⟩ ∧ b < N ∧ w.cell? ⟨b, off + k, none⟩ = some (.string x) := by
  obtain ⟨b, off, rfl, hb, hc⟩ := SliceAt.at h hk
  exact ⟨l.getD k default, b, off, getD_some hk, rfl, hb, by simpa using hc 0 _ rfl⟩
theorem IntsAt.at {N : Nat} {w : World} {oa : Option Addr} {n cap : Nat} {l : List Int} (h : IntsAt N w (.slice oa n cap) l) {k : Nat} (hk : k < l.length) :
    ∃ x b off, l[k]? = some x ∧ oa = some ⟨b, off, none⟩ ∧ b < N ∧ w.cell? ⟨b, off + k, none⟩ = some (.int .i64 x) := by
  obtain ⟨b, off, rfl, hb, hc⟩ := SliceAt.at h hk
  exact ⟨l.getD k default, b, off, getD_some hk, rfl, hb, by simpa using hc 0 _ rfl⟩

/-- what a call that only makes memory leaves: all that was there -/
theorem bcell {W w1 : World} {n : Nat} (hb : Below n W w1) : (∀ b o, b < n → w1.cell? ⟨b, o, none⟩ = W.cell? ⟨b, o, none⟩) ∧ (∀ b o, b < n → w1.frozen? ⟨b, o, none⟩ = W.frozen? ⟨b, o, none⟩) :=
  ⟨fun b o h => hb.cell (p := ⟨b, o, none⟩) h, fun b o h => hb.frozen (p := ⟨b, o, none⟩) h⟩

theorem Below.after {w w1 : World} {o : Obj} (h : Below (w.alloc o).heap.size (w.alloc o) w1) : Below w.heap.size w w1 := ((Below.refl _ _).alloc (Nat.le_refl _) _).trans (h.mono (by simp))
theorem Below.after_lt {w w1 : World} {o : Obj} (h : Below (w.alloc o).heap.size (w.alloc o) w1) : w.heap.size < w1.heap.size := by have := h.size; simp at this; omega
theorem ret_int {k : IntKind} {a b : Int} (h : a = b) : Ending.returned (.int k a) = .returned (.int k b) := by rw [h]
theorem ret_bool {a b : Bool} (h : a = b) : Ending.returned (.bool a) = .returned (.bool b) := by rw [h]
end Go.Proofs.YtkfdnlfkomhmfaaGreatDoor
