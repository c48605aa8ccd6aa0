/- append of a whole slice to a slice of the call's own. -/
import Derived.Test.YtkfdnlfkomhmfaaGreatDoorOwn
import Derived.Test.YtkfdnlfkomhmfaaGreatDoorProg
import Derived.Laws.OwnMore
import Derived.Deep.RegionLaw
namespace Go.Proofs.YtkfdnlfkomhmfaaGreatDoor
open Go.RowKit
set_option linter.unusedVariables false
set_option linter.unusedSimpArgs false

theorem flat_cells {α : Type} [Inhabited α] {f : α → List Value} {sz : Nat} (hf : ∀ x, (f x).length = sz) {N : Nat} {w : World} {b off : Nat} {l : List α}
    (h : ∀ i, i < l.length → (f (l.getD i default)).length = sz ∧ CellsAt w b (off + i * sz) (f (l.getD i default))) (hsz : 0 < sz) :
    ∀ j u, (l.flatMap f)[j]? = some u → w.cell? ⟨b, off + j, none⟩ = some u := by
  intro j u hj
  have hlt : j < (l.flatMap f).length := (List.getElem?_eq_some_iff.1 hj).1
  rw [flat_len hf] at hlt
  have hi : j / sz < l.length := Nat.div_lt_of_lt_mul (by rw [Nat.mul_comm]; exact hlt)
  have hm := Nat.mod_lt j hsz
  have he : j = j / sz * sz + j % sz := by rw [Nat.mul_comm]; exact (Nat.div_add_mod j sz).symm
  have := (h (j / sz) hi).2 (j % sz) u (by rw [← flat_get hf l _ _ hi hm, ← he]; exact hj)
  rw [show off + j = off + j / sz * sz + j % sz by omega]
  exact this

theorem run_append_none {P : Program} {w : World} {base : Nat} {t ty e : TypeId} {i : TypeInfo} {size : Nat} (ht : P.underlying t = some (.slice e)) (hi : P.info? e = some i)
    (v : Value) (n c : Nat) (xs : List Value) (hown : w.ownsRow base e size v n xs) :
    (Builtin.append_ #[t, t] ty #[v, .slice none 0 c]).run P w = .ok v w := by
  rcases hown.2 with ⟨rfl, rfl⟩ | ⟨g, cap, cur, rfl, _, _, hnc, _⟩
  · simp [Builtin.append_, run_underlying ht, sizeOf, typeInfo, hi, Builtin.lenOf, Builtin.firstCells]
  · simp [Builtin.append_, run_underlying ht, sizeOf, typeInfo, hi, Builtin.lenOf, Builtin.firstCells, hnc, storeCells]

theorem run_appendL {P : Program} {t ty E : TypeId} (ht : P.underlying t = some (.slice E)) {z : Value} {sz bytes : Nat}
    (hinfo : (P.info? E).map (fun i => (i.zero, i.size, i.bytes)) = some (some z, sz, bytes)) (hzs : z.cells.size = sz) (hsz : 0 < sz) (hby : bytes ≤ 1000)
    {α : Type} [Inhabited α] {f : α → List Value} (hf : ∀ x, (f x).length = sz) (h1 : ∀ x, ∀ u ∈ f x, u.oneCell' = true)
    {B N : Nat} {w : World} {v vx : Value} {l l2 : List α} (hown : OwnAt f sz E B w v l) (hx : FlatAt f sz N w vx l2) (hlen : l.length + l2.length ≤ 2000000000) (hB : B ≤ w.heap.size) :
    ∃ v' w', (Builtin.append_ #[t, t] ty #[v, vx]).run P w = .ok v' w' ∧ OwnAt f sz E B w' v' (l ++ l2) ∧ w.grownBy w' v.ownBlock ∧ (v'.ownBlock = v.ownBlock ∨ ∃ k, v'.ownBlock = some k ∧ w.heap.size ≤ k) := by
  obtain ⟨i, hi, hz, hsize, hbytes⟩ := info_parts hinfo
  obtain ⟨oa, cap, rfl, h2, h3, h4, h5⟩ := hx
  cases oa with
  | none =>
    have h0 : l2 = [] := by
      cases hl : l2 with
      | nil => rfl
      | cons y ys =>
        obtain ⟨b, off, e, _⟩ := h5 (by rw [hl]; simp)
        cases e
    subst h0
    refine ⟨v, w, run_append_none ht hi v _ _ _ hown, by simpa using hown, ?_, .inl rfl⟩
    exact ⟨rfl, rfl, rfl, Nat.le_refl _, fun _ _ _ => rfl⟩
  | some ad =>
    have hn : (l2.flatMap f).length = l2.length * sz := flat_len hf l2
    have hcells : ∀ j u, (l2.flatMap f)[j]? = some u → w.cell? (ad.add j) = some u := by
      intro j u hj
      have hlt := (List.getElem?_eq_some_iff.1 hj).1
      have hpos : 0 < l2.length := by
        rcases Nat.eq_zero_or_pos l2.length with h | h
        · rw [hn, h] at hlt; simp at hlt
        · exact h
      obtain ⟨b, off, e, _, hc⟩ := h5 hpos
      cases e
      have : (⟨b, off, none⟩ : Addr).add j = ⟨b, off + j, none⟩ := by unfold Addr.add; split <;> simp_all
      rw [this]
      exact flat_cells (N := N) hf hc hsz j u hj
    obtain ⟨v', w', hr, q2, q3, q4, q5⟩ := run_append_own_at (P := P) w B t ty E i z sz bytes ht hi hz hsize hbytes hzs hsz v l.length (l.flatMap f) hown ad l2.length cap (l2.flatMap f) hn hcells
      (fun u hu => by obtain ⟨x, _, hx⟩ := List.mem_flatMap.1 hu; exact h1 x u hx) (by unfold maxLen; omega) (by have := Nat.mul_le_mul_left (l.length + l2.length) hby; omega) hB
    refine ⟨v', w', hr, ?_, q3, ?_⟩
    · unfold OwnAt; simpa using q2
    · rcases q5 with h | h
      · exact .inl h
      · exact .inr ⟨_, h, Nat.le_refl _⟩

/-- 'append(out, xs...)', out the call's own, as a step of the walk -/
theorem appendL {P : Program} {ops : Array Oper} {rest : List Oper} {o : Oper} {a : Act} {Q : Exit → Act → World → Prop} (hgd : o.guard = none) (s x : Operand) (t : TypeId)
    (ho : o.op = .call { callee := .builtin .append, args := #[s, x], argTypes := #[t, t] }) (E : TypeId) (ht : P.underlying t = some (.slice E)) {z : Value} {sz bytes : Nat}
    (hinfo : (P.info? E).map (fun i => (i.zero, i.size, i.bytes)) = some (some z, sz, bytes)) (hzs : z.cells.size = sz) (hsz : 0 < sz) (hby : bytes ≤ 1000)
    {α : Type} [Inhabited α] {f : α → List Value} (hf : ∀ x, (f x).length = sz) (h1 : ∀ x, ∀ u ∈ f x, u.oneCell' = true)
    {B N : Nat} {w : World} {v vx : Value} {l l2 : List α} (hown : OwnAt f sz E B w v l) (hs : a.eval s = v) (hx : a.eval x = vx) (hX : FlatAt f sz N w vx l2) (hlen : l.length + l2.length ≤ 2000000000) (hB : B ≤ w.heap.size)
    (h : ∀ v' w', OwnAt f sz E B w' v' (l ++ l2) → w.grownBy w' v.ownBlock → (v'.ownBlock = v.ownBlock ∨ ∃ k, v'.ownBlock = some k ∧ w.heap.size ≤ k) → wpList P ops Q rest (a.put o.dst v') w') : wpList P ops Q (o :: rest) a w := by
  refine wpList_plain hgd fun K hK => ?_
  obtain ⟨v', w', hr, h2, h3, h4⟩ := run_appendL (P := P) (t := t) (ty := o.type) ht hinfo hzs hsz hby hf h1 hown hX hlen hB
  unfold Oper.wp execOp
  simp only [ho, resolve, invoke, builtin, Sem.run_bind, Sem.run_pure, Result.andThen_ok, List.map_toArray, List.map_cons, List.map_nil, hs, hx, hr]
  exact hK _ _ (h v' w' h2 h3 h4)

/-- the same in a region that draws (go_region_law) -/
theorem step_appendL {P : Program} {ops : Array Oper} {o : Oper} {a : Act} {K : Act → World → Prop} {Q : Exit → Act → World → Prop} {Ex : Prop} (hgd : o.guard = none) (s x : Operand) (t : TypeId)
    (ho : o.op = .call { callee := .builtin .append, args := #[s, x], argTypes := #[t, t] }) (E : TypeId) (ht : P.underlying t = some (.slice E)) {z : Value} {sz bytes : Nat}
    (hinfo : (P.info? E).map (fun i => (i.zero, i.size, i.bytes)) = some (some z, sz, bytes)) (hzs : z.cells.size = sz) (hsz : 0 < sz) (hby : bytes ≤ 1000)
    {α : Type} [Inhabited α] {f : α → List Value} (hf : ∀ x, (f x).length = sz) (h1 : ∀ x, ∀ u ∈ f x, u.oneCell' = true)
    {B N : Nat} {w : World} {v vx : Value} {l l2 : List α} (hown : OwnAt f sz E B w v l) (hs : a.eval s = v) (hx : a.eval x = vx) (hX : FlatAt f sz N w vx l2) (hlen : l.length + l2.length ≤ 2000000000) (hB : B ≤ w.heap.size)
    (h : ∀ v' w', OwnAt f sz E B w' v' (l ++ l2) → w.grownBy w' v.ownBlock → (v'.ownBlock = v.ownBlock ∨ ∃ k, v'.ownBlock = some k ∧ w.heap.size ≤ k) → K (a.put o.dst v') w') :
    if Region.wanted o (yielded ops a.tmps) = true then Oper.wp P o a w K Q else Ex := by
  have hw : Region.wanted o (yielded ops a.tmps) = true := by simp [Region.wanted, hgd]
  rw [if_pos hw]
  obtain ⟨v', w', hr, h2, h3, h4⟩ := run_appendL (P := P) (t := t) (ty := o.type) ht hinfo hzs hsz hby hf h1 hown hX hlen hB
  unfold Oper.wp
  simp [execOp, ho, resolve, invoke, builtin, hs, hx, hr, Result.andThen]
  exact h v' w' h2 h3 h4
theorem OwnAt.empty {α : Type} (f : α → List Value) (sz : Nat) (E : TypeId) (w : World) : OwnAt f sz E w.heap.size (w.alloc (.cells #[] E)).drew (.slice (some ⟨w.heap.size, 0, none⟩) 0 0) ([] : List α) :=
  World.ownsRow_lit w #[] 0 (Nat.le_refl _) (by unfold maxLen; omega) (by simp)
theorem OwnAt.strAt {E : TypeId} {B : Nat} {w : World} {oa : Option Addr} {n cap : Nat} {l : List ByteArray} (h : OwnAt strCells 1 E B w (.slice oa n cap) l) {k : Nat} (hk : k < l.length) :
    ∃ x b, l[k]? = some x ∧ oa = some ⟨b, 0, none⟩ ∧ b < w.heap.size ∧ w.cell? ⟨b, k, none⟩ = some (.string x) := by
  have hh := h
  rcases h.2 with ⟨e, hn⟩ | ⟨g, cap', cur, e, hg, hw, h1, h2, h3, h4⟩
  · omega
  · cases e
    refine ⟨l.getD k default, g, getD_some hk, rfl, (Array.getElem?_eq_some_iff.1 hw).1, ?_⟩
    have hcell := World.ownsRow.cellAt hh k (by omega)
    have := flat_get (f := strCells) str_len l k 0 hk (by omega)
    rw [Nat.mul_one, Nat.add_zero] at this
    rw [this] at hcell
    exact hcell
end Go.Proofs.YtkfdnlfkomhmfaaGreatDoor
