/- A range over a function whose rounds all go on, at iterators that keep boxes of their own and that may range over functions themselves: what a round turns is told block by block. ast.walkExprs, walkStmts: every expression, every statement of a list, in preorder, to a round that goes on; ast.Stmts, ast.Exprs: iterators over them. Ascending lists of numbers: insertion, union. Ascending lists of indices: what the reference's accesses are, and what they hold. ast.Stmts, ast.Exprs: the iterators over a list's statements, its expressions. -/
import Derived.RangeFuncNested
import Derived.RangeFuncBound
import Derived.RangeFuncCalls
import Derived.RangeFuncLeaves
import Derived.Shelf.Abstract
import Derived.WalkKit
import Derived.OwnWalkIn
import Derived.TacticsInMore
import Derived.LoopNIn
import Derived.LoopIn
import Derived.Test.YtkfdnlfkomhmfaaGreatDoorOpen
import Derived.Test.YtkfdnlfkomhmfaaGreatDoorProg
import Derived.Test.YtkfdnlfkomhmfaaGreatDoorSize2
import Derived.Test.YtkfdnlfkomhmfaaGreatDoorLook
namespace Go.Proofs.YtkfdnlfkomhmfaaGreatDoor
open Go.RowKit Go.Shelf
set_option linter.unusedVariables false

/-- of the blocks of W only those of S may have turned -/
structure Turns (S : Nat → Prop) (W W' : World) : Prop where
  os : W'.os = W.os
  tape : W'.tape = W.tape
  output : W'.output = W.output
  size : W.heap.size ≤ W'.heap.size
  block : ∀ k, k < W.heap.size → ¬ S k → W'.heap[k]? = W.heap[k]?

theorem Turns.refl (S : Nat → Prop) (W : World) : Turns S W W := ⟨rfl, rfl, rfl, Nat.le_refl _, fun _ _ _ => rfl⟩
theorem Turns.trans {S : Nat → Prop} {A B C : World} (h : Turns S A B) (k : Turns S B C) : Turns S A C :=
  ⟨k.os.trans h.os, k.tape.trans h.tape, k.output.trans h.output, Nat.le_trans h.size k.size, fun i hi hs => (k.block i (Nat.lt_of_lt_of_le hi h.size) hs).trans (h.block i hi hs)⟩
theorem Turns.mono {S S' : Nat → Prop} {A B : World} (h : Turns S A B) (hs : ∀ k, k < A.heap.size → S k → S' k) : Turns S' A B :=
  ⟨h.os, h.tape, h.output, h.size, fun i hi hn => h.block i hi (fun e => hn (hs i hi e))⟩
theorem Turns.of {S : Nat → Prop} {A B : World} (h : Below A.heap.size A B) : Turns S A B := ⟨h.os, h.tape, h.output, h.size, fun i hi _ => h.block i hi⟩
theorem Turns.below {S : Nat → Prop} {A B : World} {N : Nat} (h : Turns S A B) (hN : N ≤ A.heap.size) (hs : ∀ k, S k → N ≤ k) : Below N A B :=
  ⟨h.os, h.tape, h.output, h.size, fun i hi => h.block i (Nat.lt_of_lt_of_le hi hN) (fun e => by have := hs i e; omega)⟩
theorem Turns.alloc {S : Nat → Prop} {A B : World} (h : Turns S A B) (o : Obj) : Turns S A (B.alloc o) := h.trans (.of ((Below.refl _ _).alloc (Nat.le_refl _) _))
theorem Turns.setCell {S : Nat → Prop} {A B : World} (h : Turns S A B) {p : Addr} (hp : S p.block ∨ A.heap.size ≤ p.block) (u : Value) : Turns S A (B.setCell p u) :=
  ⟨h.os, h.tape, h.output, Nat.le_trans h.size (by simp [World.setCell]), fun k hk hs => (Below.heap_setCell _ _ _ _ (fun e => by subst e; rcases hp with hp | hp; exact hs hp; omega)).trans (h.block k hk hs)⟩
theorem Turns.putObj {S : Nat → Prop} {A B : World} (h : Turns S A B) {l : Nat} (hp : S l ∨ A.heap.size ≤ l) (o : Obj) : Turns S A (B.putObj l o) :=
  ⟨h.os, h.tape, h.output, Nat.le_trans h.size (by simp), fun k hk hs => (World.putObj_heap_other (fun e => by subst e; rcases hp with hp | hp; exact hs hp; omega)).trans (h.block k hk hs)⟩
theorem Turns.grown {S : Nat → Prop} {A B C : World} {row : Option Nat} (h : Turns S A B) (hg : B.grownBy C row) (hr : ∀ k, row = some k → S k ∨ A.heap.size ≤ k) : Turns S A C :=
  ⟨hg.os.trans h.os, hg.tape.trans h.tape, hg.output.trans h.output, Nat.le_trans h.size hg.size, fun k hk hs => (hg.block k (Nat.lt_of_lt_of_le hk h.size) (fun e => by rcases hr k e.symm with hp | hp; exact hs hp; omega)).trans (h.block k hk hs)⟩
theorem below_putObj {w W : World} {l : Nat} (hl : w.heap.size ≤ l) (o : Obj) : Below w.heap.size W (W.putObj l o) :=
  ⟨rfl, rfl, rfl, by simp, fun k hk => World.putObj_heap_other (by omega)⟩

/-- THE ITERATOR's CONTRACT: function g, with the boxes lb, yields xs, each as Enc says, to rounds that all go on; what it turns itself is new; a round turns S alone. -/
def Iter {α : Type} (P : Program) (g : Nat) (lb : Array Value) (Enc : World → α → Array Value → Prop) (N : Nat) (ok : World → Prop) (own : Nat → Prop) (xs : List α) : Prop :=
  ∀ (m l : Nat) (S : Nat → Prop) (J : List α → World → Prop) (W : World), ok W → (∀ k, S k → N ≤ k ∧ ¬ own k ∧ k < W.heap.size) → N ≤ W.heap.size →
    (∀ pre A B, J pre A → Below W.heap.size A B → J pre B) →
    (∀ (m' : Nat) pre x args W1, J pre W1 → Turns S W W1 → Enc W1 x args → pre ++ [x] <+: xs → YieldAt Fence.wide m' P l args W1 fun e W' => e = .returned (.bool true) ∧ J (pre ++ [x]) W' ∧ Turns S W1 W') →
    J [] W → CallsIn Fence.wide m P g (#[.func (.yield l) #[] #[]] ++ lb) W fun e W' => (∃ v, e = .returned v) ∧ J xs W' ∧ Turns S W W'

theorem wpIn_range {α : Type} {P : Program} {n : Nat} {g : Operand} {ps : Array Tmp} {assign body : Code} {Q : Exit → Act → World → Prop} {a : Act} {w : World}
    {gf : Nat} {lb : Array Value} (hg : a.eval g = .func (.func gf) #[] lb) (eg : ∀ args w, (callFunc gf args).run P w = .ok (.enter gf args) w)
    {Enc : World → α → Array Value → Prop} {N : Nat} {ok : World → Prop} {own : Nat → Prop} {xs : List α} (hit : Iter P gf lb Enc N ok own xs)
    (hok : ∀ W1, Below w.heap.size w W1 → ok W1) (hN : N ≤ w.heap.size) (hps : ∀ W x args, Enc W x args → args.size = ps.size)
    (hEnc : ∀ A B x args, Enc A x args → Below N A B → Enc B x args)
    (S : Nat → Prop) (hS : ∀ k, S k → N ≤ k ∧ ¬ own k ∧ k < w.heap.size) (hown : ∀ k, own k → k < w.heap.size)
    (I : List α → World → Prop) (hI : ∀ pre A B, I pre A → Below w.heap.size A B → I pre B) (h0 : I [] w)
    (Ax : α → Array Value → Act → World → Prop) (hAx : ∀ x args a₁ A l r o, Ax x args a₁ A → A.heap[l]? = some (.loop r) → Ax x args a₁ (A.putObj l o))
    (hassign : ∀ (l m : Nat) (pre : List α) (x : α) (args : Array Value) (W : World) (K : Act → World → Prop), I pre W → Turns S w W → Enc W x args → pre ++ [x] <+: xs →
      (∀ a₁ W', Ax x args a₁ W' → Below W.heap.size W W' → K a₁ W') →
      assign.wpIn (Fence.wide.inRound l) m P (Exit.then K (fun _ _ _ => False)) { tmps := (ps.zip args).foldl (fun t (p, v) => t.setIfInBounds p v) a.tmps, defers := [] } W)
    (hbody : ∀ (l m : Nat) (pre : List α) (x : α) (args : Array Value) (a₁ : Act) (W : World), I pre W → Turns S w W → Enc W x args → Ax x args a₁ W → pre ++ [x] <+: xs → w.heap.size < W.heap.size →
      body.wpIn (Fence.wide.inRound l) m P (fun e _ W' => e = .normal ∧ I (pre ++ [x]) W' ∧ Turns S W W') a₁ W)
    (hdone : ∀ (D : Nat) (W : World), I xs W → Turns S w W → W.heap[D]? = some (.deferred (some [])) → w.heap.size ≤ D → Q .normal { a with defers := { target := .collected D, args := #[] } :: a.defers } W) :
    (Code.rangeFunc g ps assign body).wpIn Fence.wide n P Q a w := by
  refine wpIn_rangeFunc ?_
  intro fn hfn
  obtain ⟨rec, hrec⟩ : ∃ rec : LoopState → Option Code → Loop, rec = fun st pe => { state := st, pending := pe, fn, tmps := a.tmps, params := ps, assign, body, defers := w.heap.size } := ⟨_, rfl⟩
  obtain ⟨W1, hW1⟩ : ∃ W1, (w.alloc (.deferred (some []))).alloc (.loop (rec .ready none)) = W1 := ⟨_, rfl⟩
  have hL1 : W1.heap[w.heap.size + 1]? = some (.loop (rec .ready none)) := by
    rw [← hW1]; have := World.alloc_heap_new (w.alloc (.deferred (some []))) (.loop (rec .ready none)); rwa [World.size_alloc] at this
  have hK1 : W1.heap[w.heap.size]? = some (.deferred (some [])) := by
    rw [← hW1]; exact (Below.heap_alloc _ _ _ (by simp)).trans (World.alloc_heap_new w _)
  have hb1 : Below w.heap.size w W1 := by
    rw [← hW1]; exact ((Below.refl _ w).alloc (Nat.le_refl _) _).alloc (by simp) _
  have hs1 : W1.heap.size = w.heap.size + 2 := by rw [← hW1]; simp
  have hI1 : I [] W1 := hI _ _ _ h0 hb1
  refine ⟨w.heap.size + 1, [{ target := .collected w.heap.size, args := #[] }], W1, { target := .fn (.func gf) lb, args := #[.func (.yield (w.heap.size + 1)) #[] #[]] }, W1, gf,
    #[.func (.yield (w.heap.size + 1)) #[] #[]] ++ lb, W1, ?_, ?_, ?_, ?_, (fun h => by cases h), ?_⟩
  · rw [← hW1, hrec]; exact run_enterLoop_outer _ _ _ _ _
  · simp only [resolve, hg]
    simp [go_sem]
  · intro f' hf'; trivial
  · simp [invoke, go_sem, eg]
  · refine (hit (n - 1) (w.heap.size + 1) (fun k => S k ∨ k = w.heap.size + 1)
      (fun pre W => I pre W ∧ Turns S w W ∧ W.heap[w.heap.size + 1]? = some (.loop (rec .ready none)) ∧ W.heap[w.heap.size]? = some (.deferred (some [])))
      W1 (hok W1 hb1) ?hS (by omega) ?hJ ?hY ⟨hI1, .of hb1, hL1, hK1⟩).mono ?fin
    case hS =>
      rintro k (h | rfl)
      · obtain ⟨h1, h2, h3⟩ := hS k h; exact ⟨h1, h2, by omega⟩
      · exact ⟨by omega, fun h => by have := hown _ h; omega, by omega⟩
    case hJ =>
      rintro pre A B ⟨hi, ht, hl, hd⟩ hAB
      exact ⟨hI _ _ _ hi (hAB.mono (by omega)), ⟨hAB.os.trans ht.os, hAB.tape.trans ht.tape, hAB.output.trans ht.output, Nat.le_trans ht.size hAB.size, fun k hk hs => (hAB.block k (by omega)).trans (ht.block k hk hs)⟩,
        (hAB.block _ (by omega)).trans hl, (hAB.block _ (by omega)).trans hd⟩
    case hY =>
      rintro m' pre x args W ⟨hi, ht, hl, hd⟩ htS he hpre
      have hlt : w.heap.size + 1 < W.heap.size := (Array.getElem?_eq_some_iff.1 hl).1
      have hy := run_yield (P := P) (args := args) hl (by rw [hrec]; exact hps _ x _ he)
      rw [hrec] at hy
      refine ⟨fn, _, assign, body, hy, roundIn_of_wpIn hfn (hassign _ m' pre x args W _ hi ht he hpre ?_)⟩
      intro a₁ W2 hax hB2
      have hl2 : W2.heap[w.heap.size + 1]? = some (.loop (rec .ready none)) := (hB2.block _ hlt).trans hl
      have hd2 : W2.heap[w.heap.size]? = some (.deferred (some [])) := (hB2.block _ (by omega)).trans hd
      refine ⟨_, run_beginRound hl2 (by rw [hrec]), ?_⟩
      have hlt2 : w.heap.size + 1 < W2.heap.size := (Array.getElem?_eq_some_iff.1 hl2).1
      obtain ⟨W3, hW3⟩ : ∃ W3, W3 = W2.putObj (w.heap.size + 1) (.loop { rec .ready none with state := .busy }) := ⟨_, rfl⟩
      rw [← hW3]
      have hl3 : W3.heap[w.heap.size + 1]? = some (.loop { rec .ready none with state := .busy }) := by rw [hW3]; exact World.putObj_heap_same hlt2
      have hd3 : W3.heap[w.heap.size]? = some (.deferred (some [])) := by rw [hW3]; exact (World.putObj_heap_other (by omega)).trans hd2
      have hB3 : Below w.heap.size W2 W3 := by rw [hW3]; exact below_putObj (by omega) _
      have hi3 : I pre W3 := hI _ _ _ (hI _ _ _ hi (hB2.mono (by omega))) hB3
      have ht2 : Turns S w W2 := ht.trans (.of hB2)
      have ht3 : Turns S w W3 := by rw [hW3]; exact ht2.putObj (.inr (by omega)) _
      have hax3 : Ax x args a₁ W3 := by rw [hW3]; exact hAx _ _ _ _ _ _ _ hax hl2
      have he3 : Enc W3 x args := hEnc _ _ _ _ (hEnc _ _ _ _ he (hB2.mono (by omega))) (hB3.mono hN)
      have hs3 : w.heap.size + 1 < W3.heap.size := (Array.getElem?_eq_some_iff.1 hl3).1
      have htS3 : Turns (fun k => S k ∨ k = w.heap.size + 1) W W3 := by
        have h1 : Turns (fun k => S k ∨ k = w.heap.size + 1) W W2 := .of hB2
        rw [hW3]; exact h1.putObj (.inl (.inr rfl)) _
      refine wpIn_mono (hbody _ m' pre x args a₁ W3 hi3 ht3 he3 hax3 hpre (by omega)) ?_
      rintro e a3 W4 ⟨rfl, hi4, ht4⟩
      have nS : ∀ k, w.heap.size ≤ k → ¬ S k := fun k hk h => by have := (hS k h).2.2; omega
      have hl4 := (ht4.block _ hs3 (nS _ (by omega))).trans hl3
      have hd4 := (ht4.block _ (by omega) (nS _ (by omega))).trans hd3
      have hr := run_endRound (P := P) none hl4
      rw [hrec] at hr
      have hlt4 := (Array.getElem?_eq_some_iff.1 hl4).1
      refine ⟨_, _, hr, rfl, ⟨hI _ _ _ hi4 (below_putObj (by omega) _), (ht3.trans ht4).putObj (.inr (by omega)) _, ?_, ?_⟩, ?_⟩
      · rw [hrec]; exact World.putObj_heap_same hlt4
      · exact (World.putObj_heap_other (by omega)).trans hd4
      · exact (htS3.trans (ht4.mono fun k _ h => .inl h)).putObj (.inl (.inr rfl)) _
    case fin =>
      rintro e W2 ⟨⟨v, rfl⟩, ⟨hi, ht, hl, hd⟩, _⟩
      exact ⟨none, _, by have := run_endLoop (P := P) hl (by rw [hrec]; simp); rw [hrec] at this; exact this,
        hdone w.heap.size _ (hI _ _ _ hi (below_putObj (by omega) _)) (ht.putObj (.inr (by omega)) _) ((World.putObj_heap_other (by omega)).trans hd) (Nat.le_refl _)⟩
end Go.Proofs.YtkfdnlfkomhmfaaGreatDoor

namespace Go.Proofs.YtkfdnlfkomhmfaaGreatDoor
open Go.RowKit Go.Shelf
set_option linter.unusedVariables false
set_option linter.unusedSimpArgs false

mutual
def preX : Expr → List Expr
  | ⟨k, n, v, o, args, p⟩ => ⟨k, n, v, o, args, p⟩ :: preE args
def preE : List Expr → List Expr
  | [] => []
  | x :: xs => preX x ++ preE xs
end
theorem preX_eq (x : Expr) : preX x = x :: preE x.args := by cases x; simp [preX]
theorem preE_append (l m : List Expr) : preE (l ++ m) = preE l ++ preE m := by
  induction l with
  | nil => simp [preE]
  | cons x l ih => simp [preE, ih]
theorem preE_take {l : List Expr} {k : Nat} {x : Expr} (h : l[k]? = some x) : preE (l.take (k + 1)) = preE (l.take k) ++ x :: preE x.args := by
  rw [take_snoc h, preE_append]; simp [preE, preX_eq]
theorem preE_take_prefix (l : List Expr) (k : Nat) : preE (l.take k) <+: preE l := by
  conv => rhs; rw [← List.take_append_drop k l]
  rw [preE_append]; exact List.prefix_append _ _

def EncE (N : Nat) (W : World) (x : Expr) (args : Array Value) : Prop := ∃ oa na ca, args = #[.agg #[.int .i64 x.kind, .string x.name, .int .i16 x.value, .int .i64 x.op, .slice oa na ca, .int .i64 x.pos]] ∧ ExprsAt N W (.slice oa na ca) x.args ∧ x.Wf

set_option maxRecDepth 100000 in
set_option maxHeartbeats 4000000 in
theorem walkExprs_in (l N : Nat) (S : Nat → Prop) (J : List Expr → World → Prop) (W0 : World) (hS : ∀ k, S k → N ≤ k ∧ k < W0.heap.size) (hN : N ≤ W0.heap.size)
    (hJ : ∀ pre A B, J pre A → Below W0.heap.size A B → J pre B) (xs : List Expr)
    (hY : ∀ (m' : Nat) pre x args W1, J pre W1 → Turns S W0 W1 → EncE N W1 x args → pre ++ [x] <+: xs → YieldAt Fence.wide m' Tryz.prog l args W1 fun e W' => e = .returned (.bool true) ∧ J (pre ++ [x]) W' ∧ Turns S W1 W') (n : Nat) :
    ∀ (m : Nat) (es : List Expr) (v : Value) (pre : List Expr) (W : World), eszs es ≤ n → ExprsAt N W v es → J pre W → Turns S W0 W → pre ++ preE es <+: xs →
      CallsIn Fence.wide m Tryz.prog 137 #[v, .func (.yield l) #[] #[]] W fun e W' => e = .returned (.bool true) ∧ J (pre ++ preE es) W' ∧ Turns S W W' := by
  induction n with
  | zero =>
    intro m es v pre W hz hA hj ht hp
    have : es = [] := by
      cases es with
      | nil => rfl
      | cons x xs => simp [eszs, esz_eq] at hz
    subst this
    obtain ⟨oa, cap, rfl, hc1, hc2, hc3⟩ := hA.slice
    refine callsIn_of_wp Tryz.func137 rfl trivial ?_ rfl
    simp only [Tryz.ntmps137, List.size_toArray, List.length_cons, List.length_nil, Nat.reduceAdd, Nat.reduceSub, Array.replicate_succ, Array.replicate_zero, List.push_toArray, List.append_toArray, List.nil_append, List.cons_append]
    gi_wp2
    gi_loopw [9] (fun i wr => i = .int .i64 0 ∧ wr = W) (fun i _ => 1 - (intOf i).toNat)
    case atStart => exact ⟨rfl, rfl⟩
    case round =>
      obtain ⟨rfl, rfl⟩ := hrel
      gi_wp2
      go_ret
      exact ⟨rfl, by simpa [preE] using hj, Turns.refl _ _⟩
  | succ n ih =>
    intro m es v pre W hz hA hj ht hp
    obtain ⟨oa, cap, rfl, hc1, hc2, hc3⟩ := hA.slice
    refine callsIn_of_wp Tryz.func137 rfl trivial ?_ rfl
    simp only [Tryz.ntmps137, List.size_toArray, List.length_cons, List.length_nil, Nat.reduceAdd, Nat.reduceSub, Array.replicate_succ, Array.replicate_zero, List.push_toArray, List.append_toArray, List.nil_append, List.cons_append]
    gi_wp2
    have hWs := ht.size
    gi_loopw [9] (fun i wr => ∃ k : Nat, k ≤ es.length ∧ i = .int .i64 k ∧ J (pre ++ preE (es.take k)) wr ∧ Turns S W wr) (fun i _ => es.length - (intOf i).toNat)
    case atStart => exact ⟨0, Nat.zero_le _, rfl, by simpa [preE] using hj, Turns.refl _ _⟩
    case round =>
      obtain ⟨k, hk, rfl, hjk, htk⟩ := hrel
      have hBk : Below N W wr := htk.below (by omega) (fun k h => (hS k h).1)
      have hws := htk.size
      by_cases hlt : k < es.length
      · obtain ⟨y, b, off, vy, hy, rfl, hb, hwf, hsub, c0, c1, c2, c3, c4, c5⟩ := (hA.lift hBk).at hlt
        obtain ⟨oy, cy, rfl, _, _, _⟩ := hsub.slice
        have hpt := preE_take hy
        have hpre := (preE_take_prefix es (k + 1))
        rw [hpt] at hpre
        have hle := eszs_take_le es (k + 1)
        have hzt := eszs_take hy
        have hsz := esz_eq y
        have hzy : eszs y.args ≤ n := by omega
        clear hzt hsz hle
        have hpa : pre ++ preE (es.take k) ++ [y] <+: xs := by
          refine List.IsPrefix.trans ?_ hp
          rw [List.append_assoc, List.prefix_append_right_inj]
          refine List.IsPrefix.trans ?_ hpre
          rw [List.prefix_append_right_inj]
          simp
        have hpb : pre ++ preE (es.take k) ++ [y] ++ preE y.args <+: xs := by
          refine List.IsPrefix.trans ?_ hp
          rw [List.append_assoc, List.append_assoc, List.prefix_append_right_inj]
          refine List.IsPrefix.trans ?_ hpre
          rw [List.prefix_append_right_inj]
          simp
        generalize hP : pre ++ preE (es.take k) = P at *
        have hptk := Lib.hid hpt
        clear hpt hpre
        have hal : Below W0.heap.size wr (wr.alloc (.cells #[.int .i64 y.kind, .string y.name, .int .i16 y.value, .int .i64 y.op, .slice oy y.args.length cy, .int .i64 y.pos] 40)) := (Below.refl _ _).alloc (by omega) _
        obtain ⟨fn, tmps, assign, body, hyr, hR⟩ := hY (m - 1) P y #[.agg #[.int .i64 y.kind, .string y.name, .int .i16 y.value, .int .i64 y.op, .slice oy y.args.length cy, .int .i64 y.pos]] (wr.alloc (.cells #[.int .i64 y.kind, .string y.name, .int .i16 y.value, .int .i64 y.op, .slice oy y.args.length cy, .int .i64 y.pos] 40))
          (hJ _ _ _ hjk hal) ((ht.trans htk).alloc _) ⟨_, _, _, rfl, hsub.lift (hal.mono hN), hwf⟩ hpa
        gi_wp2
        refine ⟨fun h => (by cases h), hR.mono ?_⟩
        rintro e W3 ⟨rfl, hJ3, ht3⟩
        have hblk : W3.heap[wr.heap.size]? = some (.cells #[.int .i64 y.kind, .string y.name, .int .i16 y.value, .int .i64 y.op, .slice oy y.args.length cy, .int .i64 y.pos] 40) :=
          (ht3.block _ (by simp) (fun h => by have := (hS _ h).2; omega)).trans (World.alloc_heap_new _ _)
        have d4 : W3.cell? ⟨wr.heap.size, 4, none⟩ = some (.slice oy y.args.length cy) := by simp [World.cell?, hblk]
        clear hblk hyr hR
        have ht03 : Turns S W0 W3 := ((ht.trans htk).alloc _).trans ht3
        have hB3 : Below N (wr.alloc (.cells #[.int .i64 y.kind, .string y.name, .int .i16 y.value, .int .i64 y.op, .slice oy y.args.length cy, .int .i64 y.pos] 40)) W3 := ht3.below (by simp; omega) (fun k h => (hS k h).1)
        have hs3 := hsub.lift ((hal.mono hN).trans hB3)
        have ht3w : Turns S W W3 := (htk.alloc _).trans ht3
        gi_wp2
        refine ⟨trivial, fun h => (by cases h), (ih _ y.args _ _ W3 hzy hs3 hJ3 ht03 hpb).mono ?_⟩
        rintro e W4 ⟨rfl, hJ4, ht4⟩
        gi_wp2
        go_roundw
        case rel => exact ⟨k + 1, by omega, by go_num, by rw [hptk.out]; simpa [← hP] using hJ4, ht3w.trans ht4⟩
        case measure => simp [intOf]; omega
      · have : k = es.length := by omega
        subst this
        gi_wp2
        go_ret
        exact ⟨rfl, by simpa using hjk, htk⟩

mutual
def preS1 : Stmt → List Stmt
  | ⟨k, n, z, args, body, els, p⟩ => ⟨k, n, z, args, body, els, p⟩ :: (preS body ++ preS els)
def preS : List Stmt → List Stmt
  | [] => []
  | x :: xs => preS1 x ++ preS xs
end
theorem preS1_eq (x : Stmt) : preS1 x = x :: (preS x.body ++ preS x.els) := by cases x; simp [preS1]
theorem preS_append (l m : List Stmt) : preS (l ++ m) = preS l ++ preS m := by
  induction l with
  | nil => simp [preS]
  | cons x l ih => simp [preS, ih]
theorem preS_take {l : List Stmt} {k : Nat} {x : Stmt} (h : l[k]? = some x) : preS (l.take (k + 1)) = preS (l.take k) ++ x :: (preS x.body ++ preS x.els) := by
  rw [take_snoc h, preS_append]; simp [preS, preS1_eq]
theorem preS_take_prefix (l : List Stmt) (k : Nat) : preS (l.take k) <+: preS l := by
  conv => rhs; rw [← List.take_append_drop k l]
  rw [preS_append]; exact List.prefix_append _ _

def EncS (N : Nat) (W : World) (x : Stmt) (args : Array Value) : Prop := ∃ oa na ca ob nb cb oe ne ce, args = #[.agg #[.int .i64 x.kind, .string x.name, .int .i64 x.n, .slice oa na ca, .slice ob nb cb, .slice oe ne ce, .int .i64 x.pos]] ∧ ExprsAt N W (.slice oa na ca) x.args ∧ x.Wf

set_option maxRecDepth 100000 in
set_option maxHeartbeats 4000000 in
theorem walkStmts_in (l N : Nat) (S : Nat → Prop) (J : List Stmt → World → Prop) (W0 : World) (hS : ∀ k, S k → N ≤ k ∧ k < W0.heap.size) (hN : N ≤ W0.heap.size)
    (hJ : ∀ pre A B, J pre A → Below W0.heap.size A B → J pre B) (xs : List Stmt)
    (hY : ∀ (m' : Nat) pre x args W1, J pre W1 → Turns S W0 W1 → EncS N W1 x args → pre ++ [x] <+: xs → YieldAt Fence.wide m' Tryz.prog l args W1 fun e W' => e = .returned (.bool true) ∧ J (pre ++ [x]) W' ∧ Turns S W1 W') (n : Nat) :
    ∀ (m : Nat) (es : List Stmt) (v : Value) (pre : List Stmt) (W : World), sszs es ≤ n → StmtsAt N W v es → J pre W → Turns S W0 W → pre ++ preS es <+: xs →
      CallsIn Fence.wide m Tryz.prog 104 #[v, .func (.yield l) #[] #[]] W fun e W' => e = .returned (.bool true) ∧ J (pre ++ preS es) W' ∧ Turns S W W' := by
  induction n with
  | zero =>
    intro m es v pre W hz hA hj ht hp
    have : es = [] := by
      cases es with
      | nil => rfl
      | cons x xs => simp [sszs, ssz_eq] at hz
    subst this
    obtain ⟨oa, cap, rfl, hc1, hc2, hc3⟩ := hA.slice
    refine callsIn_of_wp Tryz.func104 rfl trivial ?_ rfl
    simp only [Tryz.ntmps104, List.size_toArray, List.length_cons, List.length_nil, Nat.reduceAdd, Nat.reduceSub, Array.replicate_succ, Array.replicate_zero, List.push_toArray, List.append_toArray, List.nil_append, List.cons_append]
    gi_wp2
    gi_loopw [9] (fun i wr => i = .int .i64 0 ∧ wr = W) (fun i _ => 1 - (intOf i).toNat)
    case atStart => exact ⟨rfl, rfl⟩
    case round =>
      obtain ⟨rfl, rfl⟩ := hrel
      gi_wp2
      go_ret
      exact ⟨rfl, by simpa [preS] using hj, Turns.refl _ _⟩
  | succ n ih =>
    intro m es v pre W hz hA hj ht hp
    obtain ⟨oa, cap, rfl, hc1, hc2, hc3⟩ := hA.slice
    refine callsIn_of_wp Tryz.func104 rfl trivial ?_ rfl
    simp only [Tryz.ntmps104, List.size_toArray, List.length_cons, List.length_nil, Nat.reduceAdd, Nat.reduceSub, Array.replicate_succ, Array.replicate_zero, List.push_toArray, List.append_toArray, List.nil_append, List.cons_append]
    gi_wp2
    have hWs := ht.size
    gi_loopw [9] (fun i wr => ∃ k : Nat, k ≤ es.length ∧ i = .int .i64 k ∧ J (pre ++ preS (es.take k)) wr ∧ Turns S W wr) (fun i _ => es.length - (intOf i).toNat)
    case atStart => exact ⟨0, Nat.zero_le _, rfl, by simpa [preS] using hj, Turns.refl _ _⟩
    case round =>
      obtain ⟨k, hk, rfl, hjk, htk⟩ := hrel
      have hBk : Below N W wr := htk.below (by omega) (fun k h => (hS k h).1)
      have hws := htk.size
      by_cases hlt : k < es.length
      · obtain ⟨y, b, off, va, vb, ve, hy, rfl, hb, hwf, hsa, hsb, hse, c0, c1, c2, c3, c4, c5, c6⟩ := (hA.lift hBk).at hlt
        obtain ⟨oa, ca, rfl, _, _, _⟩ := hsa.slice
        obtain ⟨ob, cb, rfl, _, _, _⟩ := hsb.slice
        obtain ⟨oe, ce, rfl, _, _, _⟩ := hse.slice
        have hpt := preS_take hy
        have hpre := (preS_take_prefix es (k + 1))
        rw [hpt] at hpre
        have hle := sszs_take_le es (k + 1)
        have hzt := sszs_take hy
        have hsz := ssz_eq y
        have hzb : sszs y.body ≤ n := by omega
        have hze : sszs y.els ≤ n := by omega
        clear hzt hsz hle
        have hpa : pre ++ preS (es.take k) ++ [y] <+: xs := by
          refine List.IsPrefix.trans ?_ hp
          rw [List.append_assoc, List.prefix_append_right_inj]
          refine List.IsPrefix.trans ?_ hpre
          rw [List.prefix_append_right_inj]
          simp
        have hpb : pre ++ preS (es.take k) ++ [y] ++ preS y.body <+: xs := by
          refine List.IsPrefix.trans ?_ hp
          rw [List.append_assoc, List.append_assoc, List.prefix_append_right_inj]
          refine List.IsPrefix.trans ?_ hpre
          rw [List.prefix_append_right_inj]
          simp
        have hpe : pre ++ preS (es.take k) ++ [y] ++ preS y.body ++ preS y.els <+: xs := by
          refine List.IsPrefix.trans ?_ hp
          rw [List.append_assoc, List.append_assoc, List.append_assoc, List.prefix_append_right_inj]
          refine List.IsPrefix.trans ?_ hpre
          rw [List.prefix_append_right_inj]
          simp
        generalize hP : pre ++ preS (es.take k) = P at *
        have hptk := Lib.hid hpt
        clear hpt hpre
        have hal : Below W0.heap.size wr (wr.alloc (.cells #[.int .i64 y.kind, .string y.name, .int .i64 y.n, .slice oa y.args.length ca, .slice ob y.body.length cb, .slice oe y.els.length ce, .int .i64 y.pos] 44)) := (Below.refl _ _).alloc (by omega) _
        obtain ⟨fn, tmps, assign, body, hyr, hR⟩ := hY (m - 1) P y #[.agg #[.int .i64 y.kind, .string y.name, .int .i64 y.n, .slice oa y.args.length ca, .slice ob y.body.length cb, .slice oe y.els.length ce, .int .i64 y.pos]] (wr.alloc (.cells #[.int .i64 y.kind, .string y.name, .int .i64 y.n, .slice oa y.args.length ca, .slice ob y.body.length cb, .slice oe y.els.length ce, .int .i64 y.pos] 44))
          (hJ _ _ _ hjk hal) ((ht.trans htk).alloc _) ⟨_, _, _, _, _, _, _, _, _, rfl, hsa.lift (hal.mono hN), hwf⟩ hpa
        gi_wp2
        refine ⟨fun h => (by cases h), hR.mono ?_⟩
        rintro e W3 ⟨rfl, hJ3, ht3⟩
        have hblk : W3.heap[wr.heap.size]? = some (.cells #[.int .i64 y.kind, .string y.name, .int .i64 y.n, .slice oa y.args.length ca, .slice ob y.body.length cb, .slice oe y.els.length ce, .int .i64 y.pos] 44) :=
          (ht3.block _ (by simp) (fun h => by have := (hS _ h).2; omega)).trans (World.alloc_heap_new _ _)
        have d4 : W3.cell? ⟨wr.heap.size, 4, none⟩ = some (.slice ob y.body.length cb) := by simp [World.cell?, hblk]
        have hl3 : wr.heap.size < W3.heap.size := (Array.getElem?_eq_some_iff.1 hblk).1
        clear hyr hR
        have ht03 : Turns S W0 W3 := ((ht.trans htk).alloc _).trans ht3
        have hB3 : Below N (wr.alloc (.cells #[.int .i64 y.kind, .string y.name, .int .i64 y.n, .slice oa y.args.length ca, .slice ob y.body.length cb, .slice oe y.els.length ce, .int .i64 y.pos] 44)) W3 := ht3.below (by simp; omega) (fun k h => (hS k h).1)
        have hs3 := hsb.lift ((hal.mono hN).trans hB3)
        have hs4 := hse.lift ((hal.mono hN).trans hB3)
        have ht3w : Turns S W W3 := (htk.alloc _).trans ht3
        have hblk3 := Lib.hid hblk
        clear hblk
        gi_wp2
        refine ⟨trivial, fun h => (by cases h), (ih _ y.body _ _ W3 hzb hs3 hJ3 ht03 hpb).mono ?_⟩
        rintro e W4 ⟨rfl, hJ4, ht4⟩
        have hblk4 : W4.heap[wr.heap.size]? = some (.cells #[.int .i64 y.kind, .string y.name, .int .i64 y.n, .slice oa y.args.length ca, .slice ob y.body.length cb, .slice oe y.els.length ce, .int .i64 y.pos] 44) :=
          (ht4.block _ hl3 (fun h => by have := (hS _ h).2; omega)).trans hblk3.out
        have d5 : W4.cell? ⟨wr.heap.size, 5, none⟩ = some (.slice oe y.els.length ce) := by simp [World.cell?, hblk4]
        clear hblk4
        have ht04 := ht03.trans ht4
        have hs5 := hs4.lift (ht4.below (Nat.le_trans hN ht03.size) (fun k h => (hS k h).1))
        have ht4w := ht3w.trans ht4
        gi_wp2
        refine ⟨trivial, fun h => (by cases h), (ih _ y.els _ _ W4 hze hs5 hJ4 ht04 hpe).mono ?_⟩
        rintro e W5 ⟨rfl, hJ5, ht5⟩
        gi_wp2
        go_roundw
        case rel => exact ⟨k + 1, by omega, by go_num, by rw [hptk.out]; simpa [← hP] using hJ5, ht4w.trans ht5⟩
        case measure => simp [intOf]; omega
      · have : k = es.length := by omega
        subst this
        gi_wp2
        go_ret
        exact ⟨rfl, by simpa using hjk, htk⟩
end Go.Proofs.YtkfdnlfkomhmfaaGreatDoor

namespace Go.Proofs.YtkfdnlfkomhmfaaGreatDoor
open Go.RowKit
set_option linter.unusedVariables false
set_option linter.unusedSimpArgs false

def insR (n : Int) : List Int → List Int
  | [] => [n]
  | x :: xs => if n < x then n :: x :: xs else x :: insR n xs
def addR (l : List Int) (n : Int) : List Int := if n ∈ l then l else insR n l
def unionR (a b : List Int) : List Int := b.foldl addR a
abbrev Asc (l : List Int) : Prop := l.Pairwise (· < ·)

theorem mem_insR {n x : Int} {l : List Int} : x ∈ insR n l ↔ x = n ∨ x ∈ l := by
  induction l with
  | nil => simp [insR]
  | cons y ys ih =>
    unfold insR
    split
    · simp
    · simp only [List.mem_cons, ih]
      constructor
      · rintro (h | h | h)
        · exact .inr (.inl h)
        · exact .inl h
        · exact .inr (.inr h)
      · rintro (h | h | h)
        · exact .inr (.inl h)
        · exact .inl h
        · exact .inr (.inr h)
theorem asc_insR {n : Int} {l : List Int} (h : Asc l) (hn : n ∉ l) : Asc (insR n l) := by
  induction l with
  | nil => simp [insR, Asc]
  | cons y ys ih =>
    replace h := List.pairwise_cons.1 h
    simp only [List.mem_cons, not_or] at hn
    unfold insR
    split
    · next hlt =>
      refine List.pairwise_cons.2 ⟨?_, List.pairwise_cons.2 h⟩
      intro z hz
      rcases List.mem_cons.1 hz with rfl | hz
      · exact hlt
      · have := h.1 z hz; omega
    · next hlt =>
      refine List.pairwise_cons.2 ⟨?_, ih h.2 hn.2⟩
      intro z hz
      rcases mem_insR.1 hz with rfl | hz
      · omega
      · exact h.1 z hz
theorem mem_addR {n x : Int} {l : List Int} : x ∈ addR l n ↔ x ∈ l ∨ x = n := by
  unfold addR
  split
  · next h =>
    constructor
    · exact .inl
    · rintro (h' | rfl)
      · exact h'
      · exact h
  · rw [mem_insR]; exact Or.comm
theorem asc_addR {n : Int} {l : List Int} (h : Asc l) : Asc (addR l n) := by
  unfold addR
  split
  · exact h
  · next hn => exact asc_insR h hn
theorem mem_unionR {x : Int} {a b : List Int} : x ∈ unionR a b ↔ x ∈ a ∨ x ∈ b := by
  unfold unionR
  induction b generalizing a with
  | nil => simp
  | cons y ys ih =>
    rw [List.foldl_cons, ih, mem_addR, List.mem_cons]
    constructor
    · rintro ((h | h) | h)
      · exact .inl h
      · exact .inr (.inl h)
      · exact .inr (.inr h)
    · rintro (h | h | h)
      · exact .inl (.inl h)
      · exact .inl (.inr h)
      · exact .inr h
theorem asc_unionR {a b : List Int} (h : Asc a) : Asc (unionR a b) := by
  unfold unionR
  induction b generalizing a with
  | nil => exact h
  | cons y ys ih => exact ih (asc_addR h)
theorem asc_ext : ∀ {a b : List Int}, Asc a → Asc b → (∀ x, x ∈ a ↔ x ∈ b) → a = b := by
  intro a
  induction a with
  | nil =>
    intro b _ _ h
    cases b with
    | nil => rfl
    | cons y ys => have := (h y).2 (by simp); simp at this
  | cons x xs ih =>
    intro b ha hb h
    cases b with
    | nil => have := (h x).1 (by simp); simp at this
    | cons y ys =>
      replace ha := List.pairwise_cons.1 ha
      replace hb := List.pairwise_cons.1 hb
      have hx : x = y := by
        have h1 := (h x).1 (by simp)
        have h2 := (h y).2 (by simp)
        rcases List.mem_cons.1 h1 with h1 | h1
        · exact h1
        · rcases List.mem_cons.1 h2 with h2 | h2
          · exact h2.symm
          · have := hb.1 x h1; have := ha.1 y h2; omega
      subst hx
      rw [ih ha.2 hb.2 fun z => ?_]
      constructor
      · intro hz
        rcases List.mem_cons.1 ((h z).1 (List.mem_cons_of_mem _ hz)) with rfl | h'
        · have := ha.1 z hz; omega
        · exact h'
      · intro hz
        rcases List.mem_cons.1 ((h z).2 (List.mem_cons_of_mem _ hz)) with rfl | h'
        · have := hb.1 z hz; omega
        · exact h'

/-- an ascending list of indices of declarations -/
def Good (l : List Int) : Prop := Asc l ∧ ∀ x ∈ l, 0 ≤ x ∧ x < 1048576
theorem asc_len : ∀ {l : List Int} {a b : Int}, Asc l → a ≤ b → (∀ x ∈ l, a ≤ x ∧ x < b) → (l.length : Int) ≤ b - a := by
  intro l
  induction l with
  | nil => intro a b _ h _; simp; omega
  | cons x xs ih =>
    intro a b h hab hx
    replace h := List.pairwise_cons.1 h
    have h1 := hx x (by simp)
    have := ih (a := x + 1) (b := b) h.2 (by omega) fun y hy => by have := h.1 y hy; have := hx y (by simp [hy]); omega
    simp; omega
theorem Good.len {l : List Int} (h : Good l) : l.length ≤ 1048576 := by have := asc_len h.1 (by omega) h.2; omega
theorem Good.nil : Good [] := ⟨List.Pairwise.nil, by simp⟩
theorem Good.union {a b : List Int} (h : Good a) (hb : Good b) : Good (unionR a b) := ⟨asc_unionR h.1, fun x hx => by
  rcases mem_unionR.1 hx with h' | h'
  · exact h.2 x h'
  · exact hb.2 x h'⟩
theorem Good.add {a : List Int} {n : Int} (h : Good a) (hn : 0 ≤ n ∧ n < 1048576) : Good (addR a n) := ⟨asc_addR h.1, fun x hx => by
  rcases mem_addR.1 hx with h' | rfl
  · exact h.2 x h'
  · exact hn⟩
theorem insR_last {n : Int} {l : List Int} (h : l.any (fun x => decide (n < x)) = false) : insR n l = l ++ [n] := by
  induction l with
  | nil => rfl
  | cons y ys ih =>
    simp only [List.any_cons, Bool.or_eq_false_iff, decide_eq_false_iff_not] at h
    rw [insR, if_neg h.1, ih h.2]; rfl
theorem insR_snoc {n x : Int} {l : List Int} (h : l.any (fun x => decide (n < x)) = true) : insR n (l ++ [x]) = insR n l ++ [x] := by
  induction l with
  | nil => simp at h
  | cons y ys ih =>
    rw [List.cons_append, insR, insR]
    split
    · rfl
    · next hy =>
      simp only [List.any_cons, Bool.or_eq_true, decide_eq_true_eq] at h
      rw [ih (by rcases h with h | h; exact absurd h hy; exact h)]; rfl
theorem insR_here {n x : Int} {l : List Int} (h : l.any (fun x => decide (n < x)) = false) (hx : n < x) : insR n (l ++ [x]) = l ++ [n] ++ [x] := by
  induction l with
  | nil => simp [insR, hx]
  | cons y ys ih =>
    simp only [List.any_cons, Bool.or_eq_false_iff, decide_eq_false_iff_not] at h
    rw [List.cons_append, insR, if_neg h.1, ih h.2]; rfl
theorem insR_len (n : Int) (l : List Int) : (insR n l).length = l.length + 1 := by
  induction l with
  | nil => rfl
  | cons y ys ih => unfold insR; split <;> simp [ih]

end Go.Proofs.YtkfdnlfkomhmfaaGreatDoor

namespace Go.Proofs.YtkfdnlfkomhmfaaGreatDoor
open Go.RowKit
set_option linter.unusedVariables false
set_option linter.unusedSimpArgs false

def exprsOf (l : List Stmt) : List Expr := (preS l).flatMap fun s => preE s.args

def namedR (ds : List Decl) (s : ByteArray) (a b : Int) : List Int := if lookK ds s = a ∨ lookK ds s = b then [lookI ds s] else []
def hereX (ds : List Decl) (t : Bool) (k : Int) (s : ByteArray) : List Int := if t then (if k = 4 then namedR ds s 4 4 else []) else (if k = 2 ∨ k = 3 then namedR ds s 2 3 else [])
mutual
def inX (ds : List Decl) (t : Bool) : Expr → List Int
  | ⟨k, n, v, o, args, p⟩ => inE ds t (hereX ds t k n) args
def inE (ds : List Decl) (t : Bool) (out : List Int) : List Expr → List Int
  | [] => out
  | x :: xs => inE ds t (unionR out (inX ds t x)) xs
end
mutual
def usX (ds : List Decl) (t : Bool) (out : List Int) : Stmt → List Int
  | ⟨k, n, z, args, body, els, p⟩ => unionR (unionR (inE ds t out args) (usS ds t [] body)) (usS ds t [] els)
def usS (ds : List Decl) (t : Bool) (out : List Int) : List Stmt → List Int
  | [] => out
  | x :: xs => usS ds t (usX ds t out x) xs
end
def hereW (ds : List Decl) (k : Int) (s : ByteArray) : List Int := if k = 2 ∨ k = 3 then namedR ds s 2 3 else []
mutual
def wrX (ds : List Decl) (out : List Int) : Stmt → List Int
  | ⟨k, n, z, args, body, els, p⟩ => unionR (unionR (unionR out (hereW ds k n)) (wrS ds [] body)) (wrS ds [] els)
def wrS (ds : List Decl) (out : List Int) : List Stmt → List Int
  | [] => out
  | x :: xs => wrS ds (wrX ds out x) xs
end

theorem inX_eq (ds : List Decl) (t : Bool) (x : Expr) : inX ds t x = inE ds t (hereX ds t x.kind x.name) x.args := by cases x; simp [inX]
theorem usX_eq (ds : List Decl) (t : Bool) (out : List Int) (x : Stmt) : usX ds t out x = unionR (unionR (inE ds t out x.args) (usS ds t [] x.body)) (usS ds t [] x.els) := by cases x; simp [usX]
theorem wrX_eq (ds : List Decl) (out : List Int) (x : Stmt) : wrX ds out x = unionR (unionR (unionR out (hereW ds x.kind x.name)) (wrS ds [] x.body)) (wrS ds [] x.els) := by cases x; simp [wrX]
theorem inE_append (ds : List Decl) (t : Bool) : ∀ (l m : List Expr) (out : List Int), inE ds t out (l ++ m) = inE ds t (inE ds t out l) m := by
  intro l
  induction l with
  | nil => intro m out; simp [inE]
  | cons x l ih => intro m out; simp [inE, ih]
theorem usS_append (ds : List Decl) (t : Bool) : ∀ (l m : List Stmt) (out : List Int), usS ds t out (l ++ m) = usS ds t (usS ds t out l) m := by
  intro l
  induction l with
  | nil => intro m out; simp [usS]
  | cons x l ih => intro m out; simp [usS, ih]
theorem wrS_append (ds : List Decl) : ∀ (l m : List Stmt) (out : List Int), wrS ds out (l ++ m) = wrS ds (wrS ds out l) m := by
  intro l
  induction l with
  | nil => intro m out; simp [wrS]
  | cons x l ih => intro m out; simp [wrS, ih]
theorem inE_take {ds : List Decl} {t : Bool} {out : List Int} {l : List Expr} {k : Nat} {x : Expr} (h : l[k]? = some x) : inE ds t out (l.take (k + 1)) = unionR (inE ds t out (l.take k)) (inX ds t x) := by
  rw [take_snoc h, inE_append]; simp [inE]
theorem usS_take {ds : List Decl} {t : Bool} {out : List Int} {l : List Stmt} {k : Nat} {x : Stmt} (h : l[k]? = some x) : usS ds t out (l.take (k + 1)) = usX ds t (usS ds t out (l.take k)) x := by
  rw [take_snoc h, usS_append]; simp [usS]
theorem wrS_take {ds : List Decl} {out : List Int} {l : List Stmt} {k : Nat} {x : Stmt} (h : l[k]? = some x) : wrS ds out (l.take (k + 1)) = wrX ds (wrS ds out (l.take k)) x := by
  rw [take_snoc h, wrS_append]; simp [wrS]

def Idx (ds : List Decl) : Prop := ∀ d ∈ ds, 0 ≤ d.index ∧ d.index < 1048576
theorem lookI_idx {ds : List Decl} (h : Idx ds) (s : ByteArray) : 0 ≤ lookI ds s ∧ lookI ds s < 1048576 := by
  unfold lookI
  cases hf : ds.find? (fun d => decide (d.name = s)) with
  | none => simp
  | some d => have := h d (List.mem_of_find?_eq_some hf); simpa using this
theorem good_namedR {ds : List Decl} (h : Idx ds) (s : ByteArray) (a b : Int) : Good (namedR ds s a b) := by
  unfold namedR
  split
  · exact ⟨by simp [Asc], fun x hx => by simp at hx; subst hx; exact lookI_idx h s⟩
  · exact Good.nil
theorem good_hereX {ds : List Decl} (h : Idx ds) (t : Bool) (k : Int) (s : ByteArray) : Good (hereX ds t k s) := by
  unfold hereX
  split <;> split
  all_goals first | exact good_namedR h _ _ _ | exact Good.nil
theorem good_hereW {ds : List Decl} (h : Idx ds) (k : Int) (s : ByteArray) : Good (hereW ds k s) := by
  unfold hereW
  split
  · exact good_namedR h _ _ _
  · exact Good.nil
theorem good_inE {ds : List Decl} (hd : Idx ds) (t : Bool) (n : Nat) : ∀ (l : List Expr) (out : List Int), eszs l ≤ n → Good out → Good (inE ds t out l) := by
  induction n with
  | zero =>
    intro l out h ho
    cases l with
    | nil => simpa [inE] using ho
    | cons x xs => simp [eszs, esz_eq] at h
  | succ n ih =>
    intro l
    induction l with
    | nil => intro out h ho; simpa [inE] using ho
    | cons x l ihl =>
      intro out h ho
      have h1 : eszs x.args ≤ n := by simp [eszs, esz_eq] at h; omega
      have h2 : eszs l ≤ n + 1 := by simp [eszs, esz_eq] at h; omega
      rw [inE, inX_eq]
      exact ihl _ h2 (ho.union (ih _ _ h1 (good_hereX hd _ _ _)))
theorem good_usS {ds : List Decl} (hd : Idx ds) (t : Bool) (n : Nat) : ∀ (l : List Stmt) (out : List Int), sszs l ≤ n → Good out → Good (usS ds t out l) := by
  induction n with
  | zero =>
    intro l out h ho
    cases l with
    | nil => simpa [usS] using ho
    | cons x xs => simp [sszs, ssz_eq] at h
  | succ n ih =>
    intro l
    induction l with
    | nil => intro out h ho; simpa [usS] using ho
    | cons x l ihl =>
      intro out h ho
      have h1 : sszs x.body ≤ n := by simp [sszs, ssz_eq] at h; omega
      have h3 : sszs x.els ≤ n := by simp [sszs, ssz_eq] at h; omega
      have h2 : sszs l ≤ n + 1 := by simp [sszs, ssz_eq] at h; omega
      rw [usS, usX_eq]
      exact ihl _ h2 (((good_inE hd t _ _ _ (Nat.le_refl _) ho).union (ih _ _ h1 Good.nil)).union (ih _ _ h3 Good.nil))
theorem good_wrS {ds : List Decl} (hd : Idx ds) (n : Nat) : ∀ (l : List Stmt) (out : List Int), sszs l ≤ n → Good out → Good (wrS ds out l) := by
  induction n with
  | zero =>
    intro l out h ho
    cases l with
    | nil => simpa [wrS] using ho
    | cons x xs => simp [sszs, ssz_eq] at h
  | succ n ih =>
    intro l
    induction l with
    | nil => intro out h ho; simpa [wrS] using ho
    | cons x l ihl =>
      intro out h ho
      have h1 : sszs x.body ≤ n := by simp [sszs, ssz_eq] at h; omega
      have h3 : sszs x.els ≤ n := by simp [sszs, ssz_eq] at h; omega
      have h2 : sszs l ≤ n + 1 := by simp [sszs, ssz_eq] at h; omega
      rw [wrS, wrX_eq]
      exact ihl _ h2 (((ho.union (good_hereW hd _ _)).union (ih _ _ h1 Good.nil)).union (ih _ _ h3 Good.nil))

theorem mem_inE (ds : List Decl) (t : Bool) (i : Int) (n : Nat) : ∀ (l : List Expr) (out : List Int), eszs l ≤ n → (i ∈ inE ds t out l ↔ i ∈ out ∨ ∃ y ∈ preE l, i ∈ hereX ds t y.kind y.name) := by
  induction n with
  | zero =>
    intro l out h
    cases l with
    | nil => simp [inE, preE]
    | cons x xs => simp [eszs, esz_eq] at h
  | succ n ih =>
    intro l
    induction l with
    | nil => intro out h; simp [inE, preE]
    | cons x xs ihl =>
      intro out h
      have h1 : eszs x.args ≤ n := by simp [eszs, esz_eq] at h; omega
      have h2 : eszs xs ≤ n + 1 := by simp [eszs, esz_eq] at h; omega
      rw [inE, ihl _ h2, mem_unionR, inX_eq, ih _ _ h1]
      simp only [preE, preX_eq, List.mem_append, List.mem_cons]
      constructor
      · rintro ((h | h | ⟨y, hy, h⟩) | ⟨y, hy, h⟩)
        · exact .inl h
        · exact .inr ⟨x, .inl (.inl rfl), h⟩
        · exact .inr ⟨y, .inl (.inr hy), h⟩
        · exact .inr ⟨y, .inr hy, h⟩
      · rintro (hq | ⟨y, (rfl | hy) | hy, hq⟩)
        · exact .inl (.inl hq)
        · exact .inl (.inr (.inl hq))
        · exact .inl (.inr (.inr ⟨y, hy, hq⟩))
        · exact .inr ⟨y, hy, hq⟩
theorem mem_usS (ds : List Decl) (t : Bool) (i : Int) (n : Nat) : ∀ (l : List Stmt) (out : List Int), sszs l ≤ n → (i ∈ usS ds t out l ↔ i ∈ out ∨ ∃ y ∈ exprsOf l, i ∈ hereX ds t y.kind y.name) := by
  induction n with
  | zero =>
    intro l out h
    cases l with
    | nil => simp [usS, exprsOf, preS]
    | cons x xs => simp [sszs, ssz_eq] at h
  | succ n ih =>
    intro l
    induction l with
    | nil => intro out h; simp [usS, exprsOf, preS]
    | cons x xs ihl =>
      intro out h
      have h1 : sszs x.body ≤ n := by simp [sszs, ssz_eq] at h; omega
      have h3 : sszs x.els ≤ n := by simp [sszs, ssz_eq] at h; omega
      have h2 : sszs xs ≤ n + 1 := by simp [sszs, ssz_eq] at h; omega
      have he : exprsOf (x :: xs) = preE x.args ++ (exprsOf x.body ++ exprsOf x.els) ++ exprsOf xs := by simp [exprsOf, preS, preS1_eq]
      rw [usS, ihl _ h2, usX_eq, mem_unionR, mem_unionR, mem_inE ds t i _ x.args out (Nat.le_refl _), ih _ _ h1, ih _ _ h3, he]
      simp only [List.mem_append, List.not_mem_nil, false_or]
      constructor
      · rintro ((((h | ⟨y, hy, h⟩) | ⟨y, hy, h⟩) | ⟨y, hy, h⟩) | ⟨y, hy, h⟩)
        · exact .inl h
        · exact .inr ⟨y, .inl (.inl hy), h⟩
        · exact .inr ⟨y, .inl (.inr (.inl hy)), h⟩
        · exact .inr ⟨y, .inl (.inr (.inr hy)), h⟩
        · exact .inr ⟨y, .inr hy, h⟩
      · rintro (h | ⟨y, (hy | hy | hy) | hy, h⟩)
        · exact .inl (.inl (.inl (.inl h)))
        · exact .inl (.inl (.inl (.inr ⟨y, hy, h⟩)))
        · exact .inl (.inl (.inr ⟨y, hy, h⟩))
        · exact .inl (.inr ⟨y, hy, h⟩)
        · exact .inr ⟨y, hy, h⟩
theorem mem_wrS (ds : List Decl) (i : Int) (n : Nat) : ∀ (l : List Stmt) (out : List Int), sszs l ≤ n → (i ∈ wrS ds out l ↔ i ∈ out ∨ ∃ y ∈ preS l, i ∈ hereW ds y.kind y.name) := by
  induction n with
  | zero =>
    intro l out h
    cases l with
    | nil => simp [wrS, preS]
    | cons x xs => simp [sszs, ssz_eq] at h
  | succ n ih =>
    intro l
    induction l with
    | nil => intro out h; simp [wrS, preS]
    | cons x xs ihl =>
      intro out h
      have h1 : sszs x.body ≤ n := by simp [sszs, ssz_eq] at h; omega
      have h3 : sszs x.els ≤ n := by simp [sszs, ssz_eq] at h; omega
      have h2 : sszs xs ≤ n + 1 := by simp [sszs, ssz_eq] at h; omega
      rw [wrS, ihl _ h2, wrX_eq, mem_unionR, mem_unionR, mem_unionR, ih _ _ h1, ih _ _ h3]
      simp only [preS, preS1_eq, List.mem_append, List.mem_cons, List.not_mem_nil, false_or]
      constructor
      · rintro ((((h | h) | ⟨y, hy, h⟩) | ⟨y, hy, h⟩) | ⟨y, hy, h⟩)
        · exact .inl h
        · exact .inr ⟨x, .inl (.inl rfl), h⟩
        · exact .inr ⟨y, .inl (.inr (.inl hy)), h⟩
        · exact .inr ⟨y, .inl (.inr (.inr hy)), h⟩
        · exact .inr ⟨y, .inr hy, h⟩
      · rintro (hq | ⟨y, (rfl | hy | hy) | hy, hq⟩)
        · exact .inl (.inl (.inl (.inl hq)))
        · exact .inl (.inl (.inl (.inr hq)))
        · exact .inl (.inl (.inr ⟨y, hy, hq⟩))
        · exact .inl (.inr ⟨y, hy, hq⟩)
        · exact .inr ⟨y, hy, hq⟩

/-- what the program's indices holds, by membership -/
def idxP (ds : List Decl) (names : List ByteArray) (kinds : List Int) (i : Int) : Prop := ∃ s ∈ names, ∃ d, ds.find? (fun d => decide (d.name = s)) = some d ∧ d.kind ∈ kinds ∧ i = d.index
theorem mem_namedR {ds : List Decl} {s : ByteArray} {a b i : Int} (ha : a ≠ 0) (hb : b ≠ 0) : i ∈ namedR ds s a b ↔ ∃ d, ds.find? (fun d => decide (d.name = s)) = some d ∧ (d.kind = a ∨ d.kind = b) ∧ i = d.index := by
  unfold namedR lookK lookI
  cases h : ds.find? (fun d => decide (d.name = s)) with
  | none => simp; intro h; omega
  | some d =>
    simp only [Option.map_some, Option.getD_some, Option.some.injEq]
    split
    · next hk =>
      rw [List.mem_singleton]
      exact ⟨fun e => ⟨d, rfl, hk, e⟩, fun ⟨d', e, _, e'⟩ => by subst e; exact e'⟩
    · next hk =>
      exact ⟨fun h => absurd h (by simp), fun ⟨d', e, h', _⟩ => by subst e; exact absurd h' hk⟩
end Go.Proofs.YtkfdnlfkomhmfaaGreatDoor

namespace Go.Proofs.YtkfdnlfkomhmfaaGreatDoor
open Go.RowKit Go.Shelf
set_option linter.unusedVariables false
set_option linter.unusedSimpArgs false

/-- the box that an iterator captured holds the list -/
def IterOk (N Bs : Nat) (v : Value) (l : List Stmt) (W : World) : Prop := W.cell? ⟨Bs, 0, none⟩ = some v ∧ StmtsAt N W v l

theorem Stmts_in (m : Nat) (oa : Option Addr) (n cap : Nat) (w : World) :
    CallsIn Fence.wide m Tryz.prog 55 #[.slice oa n cap] w fun e w' => e = .returned (.func (.func 103) #[] #[.pointer (some ⟨w.heap.size, 0, none⟩)]) ∧ w' = w.alloc (.cells #[.slice oa n cap] 42) := by
  refine callsIn_of_wp Tryz.func55 rfl trivial ?_ rfl
  simp only [Tryz.ntmps55, List.size_toArray, List.length_cons, List.length_nil, Nat.reduceAdd, Nat.reduceSub, Array.replicate_succ, Array.replicate_zero, List.push_toArray, List.append_toArray, List.nil_append, List.cons_append]
  gi_wp2
  go_ret
  exact ⟨rfl, rfl⟩
theorem Exprs_in (m : Nat) (oa : Option Addr) (n cap : Nat) (w : World) :
    CallsIn Fence.wide m Tryz.prog 101 #[.slice oa n cap] w fun e w' => e = .returned (.func (.func 136) #[] #[.pointer (some ⟨w.heap.size, 0, none⟩)]) ∧ w' = w.alloc (.cells #[.slice oa n cap] 42) := by
  refine callsIn_of_wp Tryz.func101 rfl trivial ?_ rfl
  simp only [Tryz.ntmps101, List.size_toArray, List.length_cons, List.length_nil, Nat.reduceAdd, Nat.reduceSub, Array.replicate_succ, Array.replicate_zero, List.push_toArray, List.append_toArray, List.nil_append, List.cons_append]
  gi_wp2
  go_ret
  exact ⟨rfl, rfl⟩

theorem iterStmts (N Bs : Nat) (v : Value) (l : List Stmt) : Iter Tryz.prog 103 #[.pointer (some ⟨Bs, 0, none⟩)] (EncS N) N (IterOk N Bs v l) (· = Bs) (preS l) := by
  intro m lY S J W hok hS hN hJ hY h0
  obtain ⟨hc, hA⟩ := hok
  have H := walkStmts_in lY N S J W (fun k h => ⟨(hS k h).1, (hS k h).2.2⟩) hN hJ (preS l) hY (sszs l) (m - 1) l v [] W (Nat.le_refl _) hA h0 (Turns.refl _ _) (by simp)
  refine callsIn_of_wp Tryz.func103 rfl trivial ?_ rfl
  simp only [Tryz.ntmps103, List.size_toArray, List.length_cons, List.length_nil, Nat.reduceAdd, Nat.reduceSub, Array.replicate_succ, Array.replicate_zero, List.push_toArray, List.append_toArray, List.nil_append, List.cons_append]
  gi_wp2
  refine ⟨trivial, fun h => (by cases h), H.mono ?_⟩
  rintro e W1 ⟨rfl, hJ1, ht1⟩
  gi_wp2
  go_end0
  exact ⟨⟨_, rfl⟩, by simpa using hJ1, ht1⟩

theorem Turns.past {S : Nat → Prop} {A B C : World} {n : Nat} (h : Turns S A B) (hb : Below n B C) (hn : A.heap.size ≤ n) : Turns S A C :=
  ⟨hb.os.trans h.os, hb.tape.trans h.tape, hb.output.trans h.output, Nat.le_trans h.size hb.size, fun k hk hs => (hb.block k (by omega)).trans (h.block k hk hs)⟩
attribute [local go_sem] Oper.semAt_some
set_option maxRecDepth 100000 in
set_option maxHeartbeats 4000000 in
theorem iterExprs (N Bs : Nat) (v : Value) (l : List Stmt) : Iter Tryz.prog 136 #[.pointer (some ⟨Bs, 0, none⟩)] (EncE N) N (IterOk N Bs v l) (· = Bs) (exprsOf l) := by
  intro m lY S J W hok hS hN hJ hY h0
  obtain ⟨hc, hA⟩ := hok
  obtain ⟨oa, cap, rfl, _, _, _⟩ := hA.slice
  refine callsIn_of_wp_marks Tryz.func136 rfl trivial ?_ rfl
  simp only [Tryz.ntmps136, List.size_toArray, List.length_cons, List.length_nil, Nat.reduceAdd, Nat.reduceSub, Array.replicate_succ, Array.replicate_zero, List.push_toArray, List.append_toArray, List.nil_append, List.cons_append]
  have hBl : Bs < W.heap.size := by
    by_cases h : Bs < W.heap.size
    · exact h
    · simp [World.cell?, Array.getElem?_eq_none (Nat.le_of_not_lt h)] at hc
  have hc1 : (W.alloc (.cells #[.func (.yield lY) #[] #[]] 171)).cell? ⟨Bs, 0, none⟩ = some (.slice oa l.length cap) := by
    rw [World.cell?_of_block (w := W) (Below.heap_alloc _ _ _ hBl)]; exact hc
  gi_wp2
  refine ⟨trivial, fun h => (by cases h), (Stmts_in _ _ _ _ _).mono ?_⟩
  rintro e w2 ⟨rfl, rfl⟩
  have hB2 : Below W.heap.size W ((W.alloc (.cells #[.func (.yield lY) #[] #[]] 171)).alloc (.cells #[.slice oa l.length cap] 42)) := ((Below.refl _ W).alloc (Nat.le_refl _) _).alloc (by simp) _
  have hyf : ((W.alloc (.cells #[.func (.yield lY) #[] #[]] 171)).alloc (.cells #[.slice oa l.length cap] 42)).heap[W.heap.size]? = some (.cells #[.func (.yield lY) #[] #[]] 171) := (Below.heap_alloc _ _ _ (by simp)).trans (World.alloc_heap_new W _)
  have hbx := World.alloc_heap_new (W.alloc (.cells #[.func (.yield lY) #[] #[]] 171)) (.cells #[.slice oa l.length cap] 42)
  have hsz : ((W.alloc (.cells #[.func (.yield lY) #[] #[]] 171)).alloc (.cells #[.slice oa l.length cap] 42)).heap.size = W.heap.size + 2 := by simp
  simp only [World.size_alloc] at hbx
  generalize hw2 : (W.alloc (.cells #[.func (.yield lY) #[] #[]] 171)).alloc (.cells #[.slice oa l.length cap] 42) = w2 at *
  have hS2 : ∀ k, S k → N ≤ k ∧ k < W.heap.size := fun k h => ⟨(hS k h).1, (hS k h).2.2⟩
  gi_wp2
  refine wpIn_range (gf := 103) (lb := #[.pointer (some ⟨W.heap.size + 1, 0, none⟩)]) rfl (enters_of Tryz.func103 (by kernel_rfl) rfl)
    (iterStmts N (W.heap.size + 1) (.slice oa l.length cap) l) ?ok (by omega) (fun _ _ _ h => by obtain ⟨_, _, _, _, _, _, _, _, _, rfl, _⟩ := h; rfl) (fun A B x args h hAB => by obtain ⟨_, _, _, _, _, _, _, _, _, rfl, h1, h2⟩ := h; exact ⟨_, _, _, _, _, _, _, _, _, rfl, h1.lift hAB, h2⟩)
    S (fun k h => ⟨(hS2 k h).1, fun e => by have := (hS2 k h).2; omega, by have := (hS2 k h).2; omega⟩) (fun k h => by omega) (fun pre W' => J (pre.flatMap fun s => preE s.args) W' ∧ Turns S W W') ?hI ⟨by simpa using hJ _ _ _ h0 hB2, .of hB2⟩
    (fun x args a₁ W' => ∃ Bx ox nx cx ob nb cb oe ne ce, args = #[.agg #[.int .i64 x.kind, .string x.name, .int .i64 x.n, .slice ox nx cx, .slice ob nb cb, .slice oe ne ce, .int .i64 x.pos]] ∧
      W'.heap[Bx]? = some (.cells #[.int .i64 x.kind, .string x.name, .int .i64 x.n, .slice ox nx cx, .slice ob nb cb, .slice oe ne ce, .int .i64 x.pos] 44) ∧ a₁ = { tmps := #[.func (.yield lY) #[] #[], .pointer (some ⟨Bs, 0, none⟩), .pointer (some ⟨W.heap.size, 0, none⟩), .pointer (some ⟨Bx, 0, none⟩), .slice oa l.length cap, .func (.func 103) #[] #[.pointer (some ⟨W.heap.size + 1, 0, none⟩)], .agg #[.int .i64 x.kind, .string x.name, .int .i64 x.n, .slice ox nx cx, .slice ob nb cb, .slice oe ne ce, .int .i64 x.pos], undef, undef, undef, undef, undef], defers := [] }) ?hAx ?assign ?body ?done
  case ok =>
    intro W1 hB1
    refine ⟨?_, hA.lift ((hB2.mono hN).trans (hB1.mono (by omega)))⟩
    have := (hB1.block (W.heap.size + 1) (by omega)).trans hbx
    simp [World.cell?, this]
  case hI =>
    rintro pre A B ⟨h1, h2⟩ hAB
    exact ⟨hJ _ _ _ h1 (hAB.mono (by omega)), h2.past hAB (by omega)⟩
  case hAx =>
    rintro x args a₁ A l' r o ⟨Bx, ox, nx, cx, ob, nb, cb, oe, ne, ce, h1, h2, h3⟩ hl
    exact ⟨Bx, ox, nx, cx, ob, nb, cb, oe, ne, ce, h1, (World.putObj_heap_other (fun e => by subst e; rw [h2] at hl; cases hl)).trans h2, h3⟩
  case assign =>
    rintro l' m' pre x args W1 K ⟨hj, ht⟩ htw ⟨ox, nx, cx, ob, nb, cb, oe, ne, ce, rfl, hxa, hxw⟩ hpre hK
    gi_wp2
    exact hK _ _ ⟨W1.heap.size, ox, nx, cx, ob, nb, cb, oe, ne, ce, rfl, World.alloc_heap_new W1 _, rfl⟩ ((Below.refl _ _).alloc (Nat.le_refl _) _)
  case body =>
    rintro l' m' pre x args a₁ W1 ⟨hj, ht⟩ htw henc ⟨Bx, ox, nx, cx, ob, nb, cb, oe, ne, ce, rfl, hBx, rfl⟩ hpre hlt
    obtain ⟨ox', nx', cx', ob', nb', cb', oe', ne', ce', e, hxa, hxw⟩ := henc
    obtain ⟨rfl, rfl, rfl⟩ : ox = ox' ∧ nx = nx' ∧ cx = cx' := by simp at e; exact e.1
    clear e
    have hyf1 := (htw.block W.heap.size (by omega) (fun h => by have := (hS2 _ h).2; omega)).trans hyf
    have cy : W1.cell? ⟨W.heap.size, 0, none⟩ = some (.func (.yield lY) #[] #[]) := by simp [World.cell?, hyf1]
    have cx3 : W1.cell? ⟨Bx, 3, none⟩ = some (.slice ox nx cx) := by simp [World.cell?, hBx]
    gi_wp2
    refine ⟨trivial, fun h => (by cases h), (CallsIn.inRound l' (walkExprs_in lY N S J W hS2 hN hJ (exprsOf l) hY (eszs x.args) _ x.args _ _ W1 (Nat.le_refl _) hxa hj ht ?_)).mono ?_⟩
    · obtain ⟨r, hr⟩ := hpre
      rw [exprsOf, ← hr]
      simp
    rintro e W2 ⟨rfl, hj2, ht2⟩
    gi_wp2
    exact ⟨hj2, ht.trans ht2⟩
  case done =>
    rintro D W1 ⟨hj, ht⟩ htw hK hD
    gi_wp2
    have hB9 : Below w2.heap.size W1 (W1.putObj D (.deferred none)) := below_putObj (by omega) _
    refine ⟨by simp, .inl ⟨_, _, rfl, run_takeDeferred hK, ?_⟩⟩
    exact ⟨_, results_none rfl _ _ _, ⟨_, rfl⟩, hJ _ _ _ hj (hB9.mono (by omega)), ht.past hB9 (by omega)⟩
end Go.Proofs.YtkfdnlfkomhmfaaGreatDoor
