/- A box whose two cells hold rows of its own: what a method that writes it leaves. -/
import Derived.Test.YtkfdnlfkomhmfaaGreatDoorApp
import Derived.Test.YtkfdnlfkomhmfaaGreatDoorMap
import Derived.Test.YtkfdnlfkomhmfaaGreatDoorBlk
namespace Go.Proofs.YtkfdnlfkomhmfaaGreatDoor
open Go.RowKit
set_option linter.unusedVariables false
set_option linter.unusedSimpArgs false

/-- block k is one of those that the box b keeps: itself, and the rows of its cells i and j -/
def Foot (i j : Nat) (w : World) (b k : Nat) : Prop := k = b ∨ (∃ v, w.cell? ⟨b, i, none⟩ = some v ∧ v.ownBlock = some k) ∨ (∃ v, w.cell? ⟨b, j, none⟩ = some v ∧ v.ownBlock = some k)
theorem Foot.swap {i j : Nat} {w : World} {b k : Nat} (h : Foot i j w b k) : Foot j i w b k := by
  rcases h with h | h | h
  · exact .inl h
  · exact .inr (.inr h)
  · exact .inr (.inl h)

/-- what turns is the box's -/
structure Mut (i j b : Nat) (w w' : World) : Prop where
  os : w'.os = w.os
  tape : w'.tape = w.tape
  output : w'.output = w.output
  size : w.heap.size ≤ w'.heap.size
  block : ∀ k, k < w.heap.size → ¬ Foot i j w b k → w'.heap[k]? = w.heap[k]?
  foot : ∀ k, Foot i j w' b k → Foot i j w b k ∨ w.heap.size ≤ k
theorem Mut.swap {i j b : Nat} {w w' : World} (h : Mut i j b w w') : Mut j i b w w' :=
  ⟨h.os, h.tape, h.output, h.size, fun k hk hf => h.block k hk (fun q => hf q.swap), fun k hk => (h.foot k hk.swap).imp Foot.swap id⟩
theorem Mut.refl (i j b : Nat) (w : World) : Mut i j b w w := ⟨rfl, rfl, rfl, Nat.le_refl _, fun _ _ _ => rfl, fun _ h => .inl h⟩
theorem Mut.trans {i j b : Nat} {w x y : World} (h : Mut i j b w x) (g : Mut i j b x y) : Mut i j b w y :=
  ⟨g.os.trans h.os, g.tape.trans h.tape, g.output.trans h.output, Nat.le_trans h.size g.size,
    fun k hk hf => (g.block k (Nat.lt_of_lt_of_le hk h.size) (fun q => by rcases h.foot k q with r | r; exact hf r; omega)).trans (h.block k hk hf),
    fun k hk => by
      rcases g.foot k hk with r | r
      · exact h.foot k r
      · exact .inr (Nat.le_trans h.size r)⟩
theorem Mut.of_below {i j b : Nat} {w w' : World} (h : Below w.heap.size w w') (hb : b < w.heap.size) : Mut i j b w w' :=
  ⟨h.os, h.tape, h.output, h.size, fun k hk _ => h.block k hk, fun k hk => .inl (by
    have e : ∀ o, w'.cell? ⟨b, o, none⟩ = w.cell? ⟨b, o, none⟩ := fun o => h.cell (p := ⟨b, o, none⟩) hb
    simpa only [Foot, e] using hk)⟩
theorem Mut.below {i j b B : Nat} {w w' : World} (h : Mut i j b w w') (hf : ∀ k, Foot i j w b k → B ≤ k) (hB : B ≤ w.heap.size) : Below B w w' :=
  ⟨h.os, h.tape, h.output, h.size, fun k hk => h.block k (by omega) (fun q => by have := hf k q; omega)⟩

/-- a block of the caller's own beside the box -/
structure Lcl (i j b : Nat) (w : World) (k : Nat) (cs : Array Value) (T : TypeId) : Prop where
  heap : w.heap[k]? = some (.cells cs T)
  nf : ¬ Foot i j w b k
theorem Lcl.lt {i j b : Nat} {w : World} {k : Nat} {cs : Array Value} {T : TypeId} (h : Lcl i j b w k cs T) : k < w.heap.size := (Array.getElem?_eq_some_iff.1 h.heap).1
theorem Lcl.mut {i j b : Nat} {w w' : World} {k : Nat} {cs : Array Value} {T : TypeId} (h : Lcl i j b w k cs T) (hm : Mut i j b w w') : Lcl i j b w' k cs T :=
  ⟨(hm.block k h.lt h.nf).trans h.heap, fun q => by rcases hm.foot k q with r | r; exact h.nf r; have := h.lt; omega⟩
theorem Lcl.cell {i j b : Nat} {w : World} {k : Nat} {cs : Array Value} {T : TypeId} (h : Lcl i j b w k cs T) {o : Nat} {v : Value} (hv : cs[o]? = some v) : w.cell? ⟨k, o, none⟩ = some v := by
  simp [World.cell?, h.heap, hv]
theorem Lcl.froz {i j b : Nat} {w : World} {k : Nat} {cs : Array Value} {T : TypeId} (h : Lcl i j b w k cs T) (o : Nat) : w.frozen? ⟨k, o, none⟩ = false := by
  simp [World.frozen?, h.heap]
theorem Lcl.new {i j b : Nat} {w : World} (hb : b < w.heap.size) (hf : ∀ k, Foot i j w b k → k < w.heap.size) (cs : Array Value) (T : TypeId) : Lcl i j b (w.alloc (.cells cs T)) w.heap.size cs T :=
  ⟨heap_alloc_new w _, fun q => by
    rcases (Mut.of_below (i := i) (j := j) ((Below.refl w.heap.size w).alloc (Nat.le_refl _) (.cells cs T)) hb).foot _ q with r | r
    · have := hf _ r; omega
    · rcases q with q | ⟨v, hv, q⟩ | ⟨v, hv, q⟩
      · omega
      · rw [World.cell?_alloc_past (hn := hb)] at hv
        have := hf w.heap.size (.inr (.inl ⟨v, hv, q⟩)); omega
      · rw [World.cell?_alloc_past (hn := hb)] at hv
        have := hf w.heap.size (.inr (.inr ⟨v, hv, q⟩)); omega⟩

/-- the box b of cells cs, whose cell i holds the row la and cell j the row lb, all from block B on -/
structure Ckr {α β : Type} (f : α → List Value) (sz : Nat) (E : TypeId) (g : β → List Value) (tz : Nat) (G : TypeId) (T : TypeId) (i j B : Nat) (w : World) (b : Nat) (cs : Array Value) (la : List α) (lb : List β) : Prop where
  heap : w.heap[b]? = some (.cells cs T)
  low : B ≤ b
  ex : ∃ va vb, cs[i]? = some va ∧ cs[j]? = some vb ∧ OwnAt f sz E B w va la ∧ OwnAt g tz G B w vb lb ∧ va.ownBlock ≠ some b ∧ vb.ownBlock ≠ some b ∧ ∀ k, va.ownBlock = some k → vb.ownBlock ≠ some k

section
variable {α β : Type} {f : α → List Value} {sz : Nat} {E : TypeId} {g : β → List Value} {tz : Nat} {G : TypeId} {T : TypeId} {i j B : Nat} {w : World} {b : Nat} {cs : Array Value} {la : List α} {lb : List β}
theorem Ckr.swap (h : Ckr f sz E g tz G T i j B w b cs la lb) : Ckr g tz G f sz E T j i B w b cs lb la := by
  obtain ⟨h1, h2, va, vb, q1, q2, q3, q4, q5, q6, q7⟩ := h
  exact ⟨h1, h2, vb, va, q2, q1, q4, q3, q6, q5, fun k hk e => q7 k e hk⟩
theorem Ckr.lt (h : Ckr f sz E g tz G T i j B w b cs la lb) : b < w.heap.size := (Array.getElem?_eq_some_iff.1 h.heap).1
theorem Ckr.cell (h : Ckr f sz E g tz G T i j B w b cs la lb) {o : Nat} {v : Value} (hv : cs[o]? = some v) : w.cell? ⟨b, o, none⟩ = some v := by simp [World.cell?, h.heap, hv]
theorem Ckr.froz (h : Ckr f sz E g tz G T i j B w b cs la lb) (o : Nat) : w.frozen? ⟨b, o, none⟩ = false := by simp [World.frozen?, h.heap]
theorem Ckr.foot (h : Ckr f sz E g tz G T i j B w b cs la lb) {k : Nat} (hk : Foot i j w b k) : B ≤ k ∧ k < w.heap.size := by
  obtain ⟨va, vb, q1, q2, q3, q4, _⟩ := h.ex
  rcases hk with rfl | ⟨v, hv, e⟩ | ⟨v, hv, e⟩
  · exact ⟨h.low, h.lt⟩
  · rw [h.cell q1] at hv
    cases hv
    exact q3.block k e
  · rw [h.cell q2] at hv
    cases hv
    exact q4.block k e
theorem Ckr.local (h : Ckr f sz E g tz G T i j B w b cs la lb) (cs' : Array Value) (T' : TypeId) : Lcl i j b (w.alloc (.cells cs' T')) w.heap.size cs' T' := Lcl.new h.lt (fun k hk => (h.foot hk).2) cs' T'
theorem Ckr.later {w' : World} (h : Ckr f sz E g tz G T i j B w b cs la lb) (hb : Below w.heap.size w w') : Ckr f sz E g tz G T i j B w' b cs la lb := by
  obtain ⟨va, vb, q1, q2, q3, q4, q5⟩ := h.ex
  exact ⟨(hb.block b h.lt).trans h.heap, h.low, va, vb, q1, q2, q3.later hb, q4.later hb, q5⟩
theorem Ckr.below {w' : World} (h : Ckr f sz E g tz G T i j B w b cs la lb) (hm : Mut i j b w w') (hB : B ≤ w.heap.size) : Below B w w' := hm.below (fun k hk => (h.foot hk).1) hB

theorem set_heap {w : World} {b o : Nat} {cs : Array Value} {T : TypeId} (h : w.heap[b]? = some (.cells cs T)) (v : Value) : (w.setCell ⟨b, o, none⟩ v).heap[b]? = some (.cells (cs.setIfInBounds o v) T) := by
  simp [World.setCell, Array.getElem?_modify, h]
theorem set_size (w : World) (a : Addr) (v : Value) : (w.setCell a v).heap.size = w.heap.size := by simp [World.setCell]

/-- a store into a cell that holds no row -/
theorem Ckr.set (h : Ckr f sz E g tz G T i j B w b cs la lb) {o : Nat} (hi : o ≠ i) (hj : o ≠ j) (v : Value) :
    Ckr f sz E g tz G T i j B (w.setCell ⟨b, o, none⟩ v) b (cs.setIfInBounds o v) la lb ∧ Mut i j b w (w.setCell ⟨b, o, none⟩ v) := by
  obtain ⟨va, vb, q1, q2, q3, q4, q5, q6, q7⟩ := h.ex
  have hk : ∀ k, k ≠ b → (w.setCell ⟨b, o, none⟩ v).heap[k]? = w.heap[k]? := fun k hk => Below.heap_setCell _ _ _ _ hk
  refine ⟨⟨set_heap h.heap v, h.low, va, vb, by rw [Array.getElem?_setIfInBounds_ne hi]; exact q1, by rw [Array.getElem?_setIfInBounds_ne hj]; exact q2,
    q3.kept (by rw [set_size]; exact Nat.le_refl _) (fun k e => hk k (fun e' => q5 (e' ▸ e))), q4.kept (by rw [set_size]; exact Nat.le_refl _) (fun k e => hk k (fun e' => q6 (e' ▸ e))), q5, q6, q7⟩,
    ⟨rfl, rfl, rfl, by rw [set_size]; exact Nat.le_refl _, fun k _ hf => hk k (fun e => hf (.inl e)), fun k hk => .inl ?_⟩⟩
  have e : ∀ m, m ≠ o → (w.setCell ⟨b, o, none⟩ v).cell? ⟨b, m, none⟩ = w.cell? ⟨b, m, none⟩ := fun m hm => World.cell?_setCell_other _ _ _ _ (by intro e; cases e; exact hm rfl)
  simpa only [Foot, e i hi.symm, e j hj.symm] using hk

/-- the row of cell j is another now: its own grown, or a new one, or none -/
theorem Ckr.setJ (h : Ckr f sz E g tz G T i j B w b cs la lb) (hij : i ≠ j) {w1 : World} {vb v' : Value} (hv : cs[j]? = some vb) (hg : w.grownBy w1 vb.ownBlock) {lb' : List β} (ho : OwnAt g tz G B w1 v' lb')
    (hn : ∀ k, v'.ownBlock = some k → vb.ownBlock = some k ∨ w.heap.size ≤ k) :
    Ckr f sz E g tz G T i j B (w1.setCell ⟨b, j, none⟩ v') b (cs.setIfInBounds j v') la lb' ∧ Mut i j b w (w1.setCell ⟨b, j, none⟩ v') := by
  obtain ⟨va, vb', q1, q2, q3, q4, q5, q6, q7⟩ := h.ex
  rw [hv] at q2
  cases q2
  have hlt := h.lt
  have hk : ∀ k, k ≠ b → (w1.setCell ⟨b, j, none⟩ v').heap[k]? = w1.heap[k]? := fun k hk => Below.heap_setCell _ _ _ _ hk
  have hb1 : w1.heap[b]? = some (.cells cs T) := (hg.block b hlt (fun e => q6 e.symm)).trans h.heap
  have hjs : j < cs.size := (Array.getElem?_eq_some_iff.1 hv).1
  have hne : v'.ownBlock ≠ some b := fun e => by
    rcases hn b e with r | r
    · exact q6 r
    · omega
  have hci : (cs.setIfInBounds j v')[i]? = some va := by rw [Array.getElem?_setIfInBounds_ne hij.symm]; exact q1
  have hcj : (cs.setIfInBounds j v')[j]? = some v' := by rw [Array.getElem?_setIfInBounds_self_of_lt hjs]
  have hh := set_heap (o := j) hb1 v'
  have hC : Ckr f sz E g tz G T i j B (w1.setCell ⟨b, j, none⟩ v') b (cs.setIfInBounds j v') la lb' := by
    refine ⟨hh, h.low, va, v', hci, hcj,
      q3.kept (by rw [set_size]; exact hg.size) (fun k e => (hk k (fun e' => q5 (e' ▸ e))).trans (hg.block k (q3.block k e).2 (fun e' => q7 k e e'.symm))),
      ho.kept (by rw [set_size]; exact Nat.le_refl _) (fun k e => hk k (fun e' => hne (e' ▸ e))), q5, hne, fun k e e' => ?_⟩
    rcases hn k e' with r | r
    · exact q7 k e r
    · have := (q3.block k e).2; omega
  refine ⟨hC, ⟨hg.os, hg.tape, hg.output, by rw [set_size]; exact hg.size, fun k hk' hf => ?_, fun k hk' => ?_⟩⟩
  · refine (hk k (fun e => hf (.inl e))).trans (hg.block k hk' (fun e => hf (.inr (.inr ⟨vb, h.cell hv, e.symm⟩))))
  · rcases hk' with r | ⟨v, hv', e⟩ | ⟨v, hv', e⟩
    · exact .inl (.inl r)
    · rw [hC.cell hci] at hv'
      cases hv'
      exact .inl (.inr (.inl ⟨va, h.cell q1, e⟩))
    · rw [hC.cell hcj] at hv'
      cases hv'
      rcases hn k e with r | r
      · exact .inl (.inr (.inr ⟨vb, h.cell hv, r⟩))
      · exact .inr r
theorem Ckr.setI (h : Ckr f sz E g tz G T i j B w b cs la lb) (hij : i ≠ j) {w1 : World} {va v' : Value} (hv : cs[i]? = some va) (hg : w.grownBy w1 va.ownBlock) {la' : List α} (ho : OwnAt f sz E B w1 v' la')
    (hn : ∀ k, v'.ownBlock = some k → va.ownBlock = some k ∨ w.heap.size ≤ k) :
    Ckr f sz E g tz G T i j B (w1.setCell ⟨b, i, none⟩ v') b (cs.setIfInBounds i v') la' lb ∧ Mut i j b w (w1.setCell ⟨b, i, none⟩ v') := by
  obtain ⟨h1, h2⟩ := h.swap.setJ hij.symm hv hg ho hn
  exact ⟨h1.swap, h2.swap⟩
end

/-- the first elements of a row of one's own -/
theorem OwnAt.taken {α : Type} {f : α → List Value} {sz : Nat} {E : TypeId} {B : Nat} {w : World} {oa : Option Addr} {n cap : Nat} {l : List α} (hf : ∀ x, (f x).length = sz) (h : OwnAt f sz E B w (.slice oa n cap) l) {m : Nat} (hm : m ≤ l.length) :
    OwnAt f sz E B w (.slice oa m cap) (l.take m) := by
  have hfl : ((l.take m).flatMap f) = (l.flatMap f).take (m * sz) := by
    have hn := flat_len hf (l.take m)
    rw [List.length_take, Nat.min_eq_left hm] at hn
    have e : l.flatMap f = (l.take m).flatMap f ++ (l.drop m).flatMap f := by rw [← List.flatMap_append, List.take_append_drop]
    rw [e, ← hn, List.take_left]
  refine ⟨by rw [flat_len hf], ?_⟩
  rw [List.length_take, Nat.min_eq_left hm, hfl]
  rcases h.2 with ⟨e, hn⟩ | ⟨q, cap', cur, e, hg, hw, h1, h2, h3, h4⟩
  · cases e
    exact .inl ⟨by rw [show m = 0 by omega], by omega⟩
  · cases e
    refine .inr ⟨q, cap, cur, rfl, hg, hw, by omega, h2, h3, ?_⟩
    rw [← h4, List.take_take, Nat.min_eq_left (Nat.mul_le_mul_right _ (by omega))]
end Go.Proofs.YtkfdnlfkomhmfaaGreatDoor
