/- Slices that a call has made itself: append, one element at a time. -/
import Derived.Test.YtkfdnlfkomhmfaaGreatDoorOpen
import Derived.Maps.AppendAt
namespace Go.Proofs.YtkfdnlfkomhmfaaGreatDoor
open Go.RowKit

/-- v owns, among the blocks from B on, the elements of l -/
def OwnAt {α : Type} (f : α → List Value) (sz : Nat) (E : TypeId) (B : Nat) (w : World) (v : Value) (l : List α) : Prop := w.ownsRow B E sz v l.length (l.flatMap f)

theorem flat_len {α : Type} {f : α → List Value} {sz : Nat} (hf : ∀ x, (f x).length = sz) (l : List α) : (l.flatMap f).length = l.length * sz := by
  induction l with
  | nil => simp
  | cons x l ih => simp [ih, hf, Nat.succ_mul]; omega
theorem flat_get {α : Type} [Inhabited α] {f : α → List Value} {sz : Nat} (hf : ∀ x, (f x).length = sz) (l : List α) (i j : Nat) (hi : i < l.length) (hj : j < sz) :
    (l.flatMap f)[i * sz + j]? = (f (l.getD i default))[j]? := by
  induction l generalizing i with
  | nil => simp at hi
  | cons x l ih =>
    cases i with
    | zero => simp [List.getElem?_append_left, hf, hj]
    | succ i =>
      have e : (i + 1) * sz + j = sz + (i * sz + j) := by rw [Nat.succ_mul]; omega
      rw [List.flatMap_cons, e, List.getElem?_append_right (by rw [hf]; omega), hf, Nat.add_sub_cancel_left, ih i (by simpa using hi)]
      simp

theorem OwnAt.nil {α : Type} (f : α → List Value) (sz : Nat) (E : TypeId) (B : Nat) (w : World) : OwnAt f sz E B w (.slice none 0 0) ([] : List α) := World.ownsRow_nil w B E sz

theorem OwnAt.slice {α : Type} {f : α → List Value} {sz : Nat} {E : TypeId} {B : Nat} {w : World} {v : Value} {l : List α} (h : OwnAt f sz E B w v l) : ∃ oa cap, v = .slice oa l.length cap ∧ l.length ≤ cap ∧ cap ≤ 9223372036854775807 := by
  rcases h.2 with ⟨rfl, hn⟩ | ⟨g, cap, cur, rfl, _, _, h1, h2, _⟩
  · exact ⟨none, 0, by rw [hn], by omega, by omega⟩
  · exact ⟨_, cap, rfl, h1, by unfold maxLen at h2; omega⟩

theorem OwnAt.block {α : Type} {f : α → List Value} {sz : Nat} {E : TypeId} {B : Nat} {w : World} {v : Value} {l : List α} (h : OwnAt f sz E B w v l) : ∀ k, v.ownBlock = some k → B ≤ k ∧ k < w.heap.size := h.lt

theorem OwnAt.kept {α : Type} {f : α → List Value} {sz : Nat} {E : TypeId} {B : Nat} {w w' : World} {v : Value} {l : List α} (h : OwnAt f sz E B w v l) (_ : w.heap.size ≤ w'.heap.size)
    (hb : ∀ k, v.ownBlock = some k → w'.heap[k]? = w.heap[k]?) : OwnAt f sz E B w' v l := by
  obtain ⟨h1, h2⟩ := h
  refine ⟨h1, ?_⟩
  rcases h2 with h2 | ⟨g, cap, cur, rfl, hg, hh, r⟩
  · exact .inl h2
  · exact .inr ⟨g, cap, cur, rfl, hg, by rw [hb g rfl]; exact hh, r⟩
theorem OwnAt.later {α : Type} {f : α → List Value} {sz : Nat} {E : TypeId} {B : Nat} {w w' : World} {v : Value} {l : List α} (h : OwnAt f sz E B w v l) (hb : Below w.heap.size w w') : OwnAt f sz E B w' v l :=
  h.kept hb.size fun k hk => hb.block k (h.block k hk).2

theorem OwnAt.flat {α : Type} [Inhabited α] {f : α → List Value} {sz : Nat} {E : TypeId} {B : Nat} {w : World} {v : Value} {l : List α} (h : OwnAt f sz E B w v l) (hf : ∀ x, (f x).length = sz) (hl : l.length ≤ 1048576) : FlatAt f sz w.heap.size w v l := by
  have hh := h
  rcases h.2 with ⟨rfl, hn⟩ | ⟨g, cap, cur, rfl, hg, hw, h1, h2, h3, h4⟩
  · exact ⟨none, 0, by rw [hn], by omega, by omega, hl, fun h0 => by omega⟩
  · refine ⟨_, cap, rfl, h1, by unfold maxLen at h2; omega, hl, fun _ => ⟨g, 0, rfl, (Array.getElem?_eq_some_iff.1 hw).1, fun i hi => ⟨hf _, fun j u hu => ?_⟩⟩⟩
    have hj : j < sz := by rw [← hf (l.getD i default)]; exact (List.getElem?_eq_some_iff.1 hu).1
    have hlt : i * sz + j < l.length * sz := by
      have : (i + 1) * sz ≤ l.length * sz := Nat.mul_le_mul_right _ hi
      rw [Nat.succ_mul] at this; omega
    have := World.ownsRow.cellAt hh (i * sz + j) hlt
    rw [flat_get hf l i j hi hj, hu] at this
    simpa using this

/-- 'out = append(out, y)', out the call's own: the element lies in the block just made. -/
theorem append1 {P : Program} {ops : Array Oper} {rest : List Oper} {o : Oper} {a : Act} {Q : Exit → Act → World → Prop} (hgd : o.guard = none) (s x : Operand) (t : TypeId)
    (ho : o.op = .call { callee := .builtin .append, args := #[s, x], argTypes := #[t, t] }) (E : TypeId) (ht : P.underlying t = some (.slice E)) {z : Value} {sz bytes : Nat}
    (hinfo : (P.info? E).map (fun i => (i.zero, i.size, i.bytes)) = some (some z, sz, bytes)) (hzs : z.cells.size = sz) (hsz : 0 < sz) (hby : bytes ≤ 1000)
    {α : Type} {f : α → List Value} (hf : ∀ x, (f x).length = sz) (h1 : ∀ x, ∀ u ∈ f x, u.oneCell' = true)
    {B : Nat} {w W : World} {v : Value} {l : List α} (hown : OwnAt f sz E B w v l) (y : α) (hW : W = w.alloc (.cells (f y).toArray E)) (hs : a.eval s = v)
    {g : Nat} (hx : a.eval x = .slice (some ⟨g, 0, none⟩) 1 1) (hgs : w.heap.size = g) (hlen : l.length ≤ 2000000000) (hB : B ≤ w.heap.size)
    (h : ∀ v' w', OwnAt f sz E B w' v' (l ++ [y]) → w.grownBy w' v.ownBlock → (v'.ownBlock = v.ownBlock ∨ ∃ k, v'.ownBlock = some k ∧ w.heap.size ≤ k) → v' ≠ .slice none 0 0 → wpList P ops Q rest (a.put o.dst v') w') : wpList P ops Q (o :: rest) a W := by
  subst hW
  subst hgs
  obtain ⟨i, hi, hz, hsize, hbytes⟩ := info_parts hinfo
  have hal : (w.alloc (.cells (f y).toArray E)).ownsRow B E sz v l.length (l.flatMap f) := World.ownsRow.alloc hown _
  refine wpList_plain hgd fun K hK => ?_
  obtain ⟨v', w', hr, h2, h3, h4, h5⟩ := run_append_own_at (P := P) (w.alloc (.cells (f y).toArray E)) B t o.type E i z sz bytes ht hi hz hsize hbytes hzs hsz v l.length (l.flatMap f) hal ⟨w.heap.size, 0, none⟩ 1 1 (f y) (by rw [hf]; omega)
    (fun j u hu => by
      have : (⟨w.heap.size, 0, none⟩ : Addr).add j = ⟨w.heap.size, j, none⟩ := by unfold Addr.add; split <;> simp_all
      rw [this, cell_of_row _ _ _ _ _ _ (heap_alloc_new w _)]; simpa using hu) (h1 y) (by unfold maxLen; omega) (by have := Nat.mul_le_mul_left (l.length + 1) hby; omega) (by simp; omega)
  unfold Oper.wp execOp
  simp only [ho, resolve, invoke, builtin, Sem.run_bind, Sem.run_pure, Result.andThen_ok, List.map_toArray, List.map_cons, List.map_nil, hs, hx, hr]
  refine hK _ _ (h v' w' ?_ ?_ ?_ ?_)
  · unfold OwnAt; simpa using h2
  · exact ⟨h3.os, h3.tape, h3.output, by have := h3.size; simp at this; omega, fun k hk hne => (h3.block k (by simp; omega) hne).trans (Below.heap_alloc _ _ _ hk)⟩
  · rcases h5 with h5 | h5
    · exact .inl h5
    · exact .inr ⟨_, h5, by simp⟩
  · intro e; exact absurd (h4.1 e).2 (by omega)

theorem grown_below {B : Nat} {w w' : World} {row : Option Nat} (hg : w.grownBy w' row) (hB : B ≤ w.heap.size) (hr : ∀ k, row = some k → B ≤ k) : Below B w w' := (Below.refl B w).grown hg hB hr
theorem OwnAt.below {α : Type} {f : α → List Value} {sz : Nat} {E : TypeId} {B : Nat} {w w' : World} {v : Value} {l : List α} (h : OwnAt f sz E B w v l) (hg : w.grownBy w' v.ownBlock) (hB : B ≤ w.heap.size) : Below B w w' :=
  grown_below hg hB fun k hk => (h.block k hk).1

theorem decl_len (x : Decl) : (Decl.cells x).length = 4 := rfl
theorem decl_one (x : Decl) : ∀ u ∈ Decl.cells x, u.oneCell' = true := by intro u hu; simp [Decl.cells] at hu; rcases hu with rfl | rfl | rfl | rfl <;> rfl
theorem diag_len (x : Diag) : (Diag.cells x).length = 2 := rfl
theorem diag_one (x : Diag) : ∀ u ∈ Diag.cells x, u.oneCell' = true := by intro u hu; simp [Diag.cells] at hu; rcases hu with rfl | rfl <;> rfl
theorem str_len (x : ByteArray) : (strCells x).length = 1 := rfl
theorem str_one (x : ByteArray) : ∀ u ∈ strCells x, u.oneCell' = true := by intro u hu; simp [strCells] at hu; subst hu; rfl
theorem int_len (x : Int) : (intCells x).length = 1 := rfl
theorem int_one (x : Int) : ∀ u ∈ intCells x, u.oneCell' = true := by intro u hu; simp [intCells] at hu; subst hu; rfl
end Go.Proofs.YtkfdnlfkomhmfaaGreatDoor
