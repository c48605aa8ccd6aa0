/- What an argument reads as, and how it lies: from the row's reading to a program's slices. -/
import Derived.Test.YtkfdnlfkomhmfaaGreatDoorRows
import Derived.Test.YtkfdnlfkomhmfaaGreatDoorProg
import Derived.ChangeArms
import Derived.DataReads
import Derived.Test.YtkfdnlfkomhmfaaGreatDoorOpen
import Derived.Test.YtkfdnlfkomhmfaaGreatDoorSize2
namespace Go.Proofs.YtkfdnlfkomhmfaaGreatDoor
open Go.RowKit
set_option linter.unusedVariables false
set_option linter.unusedSimpArgs false

theorem list_of {β : Type} [Inhabited β] (Q : Nat → β → Prop) : ∀ n : Nat, (∀ i, i < n → ∃ x, Q i x) → ∃ l : List β, l.length = n ∧ ∀ i, i < n → Q i (l.getD i default)
  | 0, _ => ⟨[], rfl, fun i hi => by omega⟩
  | n + 1, h => by
    obtain ⟨l, hl, hq⟩ := list_of Q n (fun i hi => h i (by omega))
    obtain ⟨x, hx⟩ := h n (by omega)
    refine ⟨l ++ [x], by simp [hl], fun i hi => ?_⟩
    by_cases e : i < n
    · have := hq i e
      rwa [show (l ++ [x]).getD i default = l.getD i default by simp [List.getD, List.getElem?_append_left (show i < l.length by omega)]]
    · have e' : i = l.length := by omega
      rw [show (l ++ [x]).getD i default = x by rw [e']; simp [List.getD]]
      rw [e', hl]; exact hx

theorem cellB_lt {w : World} {a : Addr} {v : Value} (h : w.cell? a = some v) : a.block < w.heap.size := by
  unfold World.cell? at h
  cases ho : w.heap[a.block]? with
  | none => simp [ho] at h
  | some o => exact (Array.getElem?_eq_some_iff.1 ho).1
theorem cells_of {w : World} {base n : Nat} {a : Addr} {cs : List Value} (h : w.cells? base a n = some cs) (hn : 0 < n) :
    a.spot = none ∧ a.block < w.heap.size ∧ cs.length = n ∧ CellsAt w a.block a.off cs := by
  obtain ⟨b, off, spot⟩ := a
  unfold World.cells? at h
  split at h
  · have hl : cs.length = n := by have := mapM_some_length h; simpa using this
    have hg : ∀ i, i < n → w.cell? ((⟨b, off, spot⟩ : Addr).add i) = cs[i]? := fun i hi => mapM_some_get h i i (by simp [hi])
    have h0 := hg 0 hn
    have hs : spot = none := by
      cases spot with
      | none => rfl
      | some s =>
        rw [List.getElem?_eq_getElem (by omega)] at h0
        unfold World.cell? Addr.add at h0
        split at h0
        · simp at h0
        · simp at h0
    subst hs
    have ha : ∀ i, (⟨b, off, none⟩ : Addr).add i = ⟨b, off + i, none⟩ := fun i => by unfold Addr.add; split <;> simp_all
    refine ⟨rfl, ?_, hl, fun j v hv => ?_⟩
    · rw [ha, List.getElem?_eq_getElem (by omega)] at h0
      exact cellB_lt h0
    · have hj := (List.getElem?_eq_some_iff.1 hv).1
      rw [← ha j]
      show w.cell? ((⟨b, off, none⟩ : Addr).add j) = _
      rw [hg j (by omega), hv]
  · cases h

theorem bulk_mem {H : Type} {d : DataW H} {l : List (DataW H)} (h : d ∈ l) : Rows.uptoBulk d ≤ Rows.uptoBulkAll l := by
  induction l with
  | nil => simp at h
  | cons x l ih =>
    simp only [Rows.uptoBulkAll]
    rcases List.mem_cons.1 h with rfl | h
    · omega
    · have := ih h; omega
theorem bulk_pos {H : Type} (d : DataW H) : 1 ≤ Rows.uptoBulk d := by cases d with
  | lit x => cases x <;> simp [Rows.uptoBulk]
  | _ => simp [Rows.uptoBulk]
theorem bulk_len {H : Type} (l : List (DataW H)) : l.length ≤ Rows.uptoBulkAll l := by
  induction l with
  | nil => simp
  | cons x l ih => have := bulk_pos x; simp only [Rows.uptoBulkAll, List.length_cons]; omega

section
variable {H : Type} {enc : TypeId × Value → H} {w : World} {spare : Nat → Bool} {held : Bool}
noncomputable abbrev TrodL (enc : TypeId × Value → H) (w : World) (spare : Nat → Bool) (held : Bool) := DataW.trod enc Tryz.prog w 0 spare held

theorem int_of {k : IntKind} {t : TypeId} {fuel : Nat} {cs : List Value} {x : DataW H × List MemPlace} (ht : Tryz.prog.underlying t = some (.int k)) (h : TrodL enc w spare held fuel t cs = some x) : ∃ n, cs = [.int k n] ∧ (Lit.int k n).wf = true := by
  obtain ⟨n, h1, _, h2⟩ := DataW.trod_int ht h
  exact ⟨n, h1, h2⟩
theorem i64_of {fuel : Nat} {cs : List Value} {x : DataW H × List MemPlace} (h : TrodL enc w spare held fuel 3 cs = some x) : ∃ n, cs = [.int .i64 n] ∧ I64 n := by
  obtain ⟨n, h1, h2⟩ := int_of Tryz.underlying3 h
  refine ⟨n, h1, ?_⟩
  simp [Lit.wf, IntKind.min, IntKind.max, IntKind.wrap, IntKind.bits, IntKind.signed] at h2
  unfold I64; omega
theorem i16_of {fuel : Nat} {cs : List Value} {x : DataW H × List MemPlace} (h : TrodL enc w spare held fuel 37 cs = some x) : ∃ n, cs = [.int .i16 n] ∧ I16 n := by
  obtain ⟨n, h1, h2⟩ := int_of Tryz.underlying37 h
  refine ⟨n, h1, ?_⟩
  simp [Lit.wf, IntKind.min, IntKind.max, IntKind.wrap, IntKind.bits, IntKind.signed] at h2
  unfold I16; omega
theorem str_of {fuel : Nat} {cs : List Value} {x : DataW H × List MemPlace} (h : TrodL enc w spare held fuel 9 cs = some x) (hb : Rows.uptoBulk x.1 ≤ 1048576) : ∃ s : ByteArray, cs = [.string s] ∧ Str s ∧ s.size + 1 ≤ Rows.uptoBulk x.1 := by
  obtain ⟨s, h1, h2, h3⟩ := DataW.trod_string Tryz.underlying9 h
  subst h2
  have : s.data.toList.length = s.size := by rw [Array.length_toList]; rfl
  simp only [Rows.uptoBulk] at hb ⊢
  exact ⟨s, h1, by unfold Str; omega, by omega⟩

/-- a slice that reads: its elements lie in a row -/
theorem slice_of {t e sz : Nat} {fuel : Nat} {v : Value} {x : DataW H × List MemPlace} (ht : Tryz.prog.underlying t = some (.slice e)) (hc : Tryz.prog.cellsOf e = sz) (hsz : 0 < sz) (h : TrodL enc w spare held fuel t [v] = some x) (hb : Rows.uptoBulk x.1 ≤ 1048576) :
    ∃ n oa cap, v = .slice oa n cap ∧ n ≤ cap ∧ cap ≤ 9223372036854775807 ∧ n ≤ 1048576 ∧ ∃ fl, (0 < n → fuel = fl + 1) ∧ ∃ b off, (0 < n → oa = some ⟨b, off, none⟩ ∧ b < w.heap.size) ∧ ∃ ys : List (DataW H), ys.length = n ∧ Rows.uptoBulkAll ys + 1 ≤ Rows.uptoBulk x.1 ∧
      ∀ i, i < n → ∃ cs y, cs.length = sz ∧ CellsAt w b (off + i * sz) cs ∧ TrodL enc w spare held fl e cs = some y ∧ Rows.uptoBulk y.1 ≤ 1048576 ∧ ys[i]? = some y.1 := by
  rcases DataW.trod_slice ht h with ⟨h1, h2⟩ | ⟨a, len, cap, elems, rest, n, hf, h1, h2, h3, h4, h5, h6, h7, h8, h9⟩
  · obtain rfl : v = .slice none 0 0 := by simpa using h1
    exact ⟨0, none, 0, rfl, by omega, by omega, by omega, 0, fun h => by omega, 0, 0, fun h => by omega, [], rfl, by subst h2; simp [Rows.uptoBulk, Rows.uptoBulkAll], fun i hi => by omega⟩
  · obtain rfl : v = .slice (some a) len cap := by simpa using h1
    subst h2
    simp only [Rows.uptoBulk] at hb
    have hl := bulk_len (elems.map (·.1))
    rw [List.length_map, h6] at hl
    have hel : ∀ i, i < len → ∃ cs y, w.cells? 0 (a.add (i * sz)) sz = some cs ∧ TrodL enc w spare held n e cs = some y ∧ elems[i]? = some y := fun i hi => by
      have := h7 i hi
      rw [hc, List.getElem?_eq_getElem (by omega)] at this
      simp only [Option.bind_eq_some_iff] at this
      obtain ⟨cs, q1, q2⟩ := this
      exact ⟨cs, _, q1, q2, List.getElem?_eq_getElem (by omega)⟩
    refine ⟨len, some a, cap, rfl, h4, by unfold maxLen at h5; omega, by omega, n, fun _ => hf, a.block, a.off, fun hp => ?_, elems.map (·.1), by simpa using h6, by simp only [Rows.uptoBulk]; omega, fun i hi => ?_⟩
    · obtain ⟨cs, y, q1, _⟩ := hel 0 hp
      rw [Nat.zero_mul] at q1
      obtain ⟨r1, r2, _⟩ := cells_of q1 hsz
      have ea : a.add 0 = a := by simp [Addr.add]
      rw [ea] at r1 r2
      obtain ⟨b, off, spot⟩ := a
      simp only at r1
      subst r1
      exact ⟨rfl, r2⟩
    · obtain ⟨cs, y, q1, q2, q3⟩ := hel i hi
      obtain ⟨r1, r2, r3, r4⟩ := cells_of q1 hsz
      refine ⟨cs, y, r3, ?_, q2, ?_, by simp [q3]⟩
      · have e1 : (a.add (i * sz)).block = a.block := by unfold Addr.add; split <;> rfl
        have e2 : (a.add (i * sz)).off = a.off + i * sz := by unfold Addr.add; split <;> simp_all
        rw [e1, e2] at r4
        exact r4
      · have := bulk_mem (List.mem_map_of_mem (f := (·.1)) (List.mem_of_getElem? q3))
        omega
end

theorem len3 {α : Type} {l : List α} (h : l.length = 3) : ∃ c0 c1 c2, l = [c0, c1, c2] := by
  match l, h with
  | [c0, c1, c2], _ => exact ⟨c0, c1, c2, rfl⟩
theorem len4 {α : Type} {l : List α} (h : l.length = 4) : ∃ c0 c1 c2 c3, l = [c0, c1, c2, c3] := by
  match l, h with
  | [c0, c1, c2, c3], _ => exact ⟨c0, c1, c2, c3, rfl⟩
theorem len6 {α : Type} {l : List α} (h : l.length = 6) : ∃ c0 c1 c2 c3 c4 c5, l = [c0, c1, c2, c3, c4, c5] := by
  match l, h with
  | [c0, c1, c2, c3, c4, c5], _ => exact ⟨c0, c1, c2, c3, c4, c5, rfl⟩
theorem len7 {α : Type} {l : List α} (h : l.length = 7) : ∃ c0 c1 c2 c3 c4 c5 c6, l = [c0, c1, c2, c3, c4, c5, c6] := by
  match l, h with
  | [c0, c1, c2, c3, c4, c5, c6], _ => exact ⟨c0, c1, c2, c3, c4, c5, c6, rfl⟩
theorem len8 {α : Type} {l : List α} (h : l.length = 8) : ∃ c0 c1 c2 c3 c4 c5 c6 c7, l = [c0, c1, c2, c3, c4, c5, c6, c7] := by
  match l, h with
  | [c0, c1, c2, c3, c4, c5, c6, c7], _ => exact ⟨c0, c1, c2, c3, c4, c5, c6, c7, rfl⟩
theorem cells_int : Tryz.prog.cellsOf 3 = 1 := by kernel_rfl
theorem cells_i16 : Tryz.prog.cellsOf 37 = 1 := by kernel_rfl
theorem cells_str : Tryz.prog.cellsOf 9 = 1 := by kernel_rfl
theorem cells_exprs : Tryz.prog.cellsOf 38 = 1 := by kernel_rfl
theorem cells_stmts : Tryz.prog.cellsOf 42 = 1 := by kernel_rfl
theorem cells_consts : Tryz.prog.cellsOf 22 = 1 := by kernel_rfl
theorem cells_globs : Tryz.prog.cellsOf 23 = 1 := by kernel_rfl
theorem cells_strs : Tryz.prog.cellsOf 24 = 1 := by kernel_rfl
theorem cells_chans : Tryz.prog.cellsOf 25 = 1 := by kernel_rfl
theorem cells_tasks : Tryz.prog.cellsOf 26 = 1 := by kernel_rfl

section
variable {H : Type} {enc : TypeId × Value → H} {w : World} {spare : Nat → Bool} {held : Bool}
theorem field_of {t : TypeId} {fs : Array Field} {fuel : Nat} {cs : List Value} {x : DataW H × List MemPlace} (ht : Tryz.prog.underlying t = some (.struct fs)) (h : TrodL enc w spare held fuel t cs = some x) (hb : Rows.uptoBulk x.1 ≤ 1048576) :
    ∃ n, fuel = n + 1 ∧ cs.length = Tryz.prog.cellsOf t ∧ ∃ ys : List (DataW H), ys.length = fs.size ∧ Rows.uptoBulkAll ys + 1 ≤ Rows.uptoBulk x.1 ∧ ∀ (i : Nat) (f : Field), fs[i]? = some f → ∃ y, TrodL enc w spare held n f.type ((cs.drop f.offset).take (Tryz.prog.cellsOf f.type)) = some y ∧ Rows.uptoBulk y.1 ≤ 1048576 ∧ ys[i]? = some y.1 := by
  obtain ⟨xs, n, h1, h2, h3, h4, h5⟩ := DataW.trod_struct ht h
  subst h2
  simp only [Rows.uptoBulk] at hb
  refine ⟨n, h1, h3, xs.map (·.1), by simpa using h4, by simp only [Rows.uptoBulk]; omega, fun i f hf => ?_⟩
  have hi : i < xs.length := by rw [h4]; exact (Array.getElem?_eq_some_iff.1 hf).1
  have := h5 i f hf
  rw [List.getElem?_eq_getElem hi] at this
  refine ⟨_, this, ?_, by simp [List.getElem?_eq_getElem hi]⟩
  have := bulk_mem (List.mem_map_of_mem (f := (·.1)) (List.getElem_mem hi))
  omega
theorem fields_Expr {fuel : Nat} {cs : List Value} {x : DataW H × List MemPlace} (h : TrodL enc w spare held fuel 40 cs = some x) (hb : Rows.uptoBulk x.1 ≤ 1048576) :
    ∃ fl, fuel = fl + 1 ∧ ∃ (a0 : Int) (a1 : ByteArray) (a2 : Int) (a3 : Int) (a4 : Value) (a5 : Int) (y4 : DataW H × List MemPlace), cs = [.int .i64 a0, .string a1, .int .i16 a2, .int .i64 a3, a4, .int .i64 a5] ∧ I64 a0 ∧ Str a1 ∧ I16 a2 ∧ I64 a3 ∧ (TrodL enc w spare held fl 38 [a4] = some y4 ∧ Rows.uptoBulk y4.1 ≤ 1048576) ∧ I64 a5 ∧ a1.size + Rows.uptoBulk y4.1 + 1 ≤ Rows.uptoBulk x.1 := by
  obtain ⟨fl, hfu, hl, ys, hyl, hyb, hf⟩ := field_of Tryz.underlying40 h hb
  rw [show Tryz.prog.cellsOf 40 = 6 by kernel_rfl] at hl
  obtain ⟨c0, c1, c2, c3, c4, c5, rfl⟩ := len6 hl
  obtain ⟨u0, u1, u2, u3, u4, u5, rfl⟩ := len6 (show ys.length = 6 from hyl)
  simp only [Rows.uptoBulkAll] at hyb
  obtain ⟨y0, g0, k0, j0⟩ := hf 0 _ rfl
  obtain rfl : u0 = y0.1 := Option.some.inj j0
  replace g0 : TrodL enc w spare held fl 3 [c0] = some y0 := (congrArg (fun k => TrodL enc w spare held fl 3 (List.take k (List.drop 0 [c0, c1, c2, c3, c4, c5]))) cells_int).symm.trans g0
  obtain ⟨y1, g1, k1, j1⟩ := hf 1 _ rfl
  obtain rfl : u1 = y1.1 := Option.some.inj j1
  replace g1 : TrodL enc w spare held fl 9 [c1] = some y1 := (congrArg (fun k => TrodL enc w spare held fl 9 (List.take k (List.drop 1 [c0, c1, c2, c3, c4, c5]))) cells_str).symm.trans g1
  obtain ⟨y2, g2, k2, j2⟩ := hf 2 _ rfl
  obtain rfl : u2 = y2.1 := Option.some.inj j2
  replace g2 : TrodL enc w spare held fl 37 [c2] = some y2 := (congrArg (fun k => TrodL enc w spare held fl 37 (List.take k (List.drop 2 [c0, c1, c2, c3, c4, c5]))) cells_i16).symm.trans g2
  obtain ⟨y3, g3, k3, j3⟩ := hf 3 _ rfl
  obtain rfl : u3 = y3.1 := Option.some.inj j3
  replace g3 : TrodL enc w spare held fl 3 [c3] = some y3 := (congrArg (fun k => TrodL enc w spare held fl 3 (List.take k (List.drop 3 [c0, c1, c2, c3, c4, c5]))) cells_int).symm.trans g3
  obtain ⟨y4, g4, k4, j4⟩ := hf 4 _ rfl
  obtain rfl : u4 = y4.1 := Option.some.inj j4
  replace g4 : TrodL enc w spare held fl 38 [c4] = some y4 := (congrArg (fun k => TrodL enc w spare held fl 38 (List.take k (List.drop 4 [c0, c1, c2, c3, c4, c5]))) cells_exprs).symm.trans g4
  obtain ⟨y5, g5, k5, j5⟩ := hf 5 _ rfl
  obtain rfl : u5 = y5.1 := Option.some.inj j5
  replace g5 : TrodL enc w spare held fl 3 [c5] = some y5 := (congrArg (fun k => TrodL enc w spare held fl 3 (List.take k (List.drop 5 [c0, c1, c2, c3, c4, c5]))) cells_int).symm.trans g5
  obtain ⟨a0, e0, w0⟩ := i64_of g0
  obtain rfl := List.head_eq_of_cons_eq e0
  obtain ⟨a1, e1, w1, z1⟩ := str_of g1 k1
  obtain rfl := List.head_eq_of_cons_eq e1
  obtain ⟨a2, e2, w2⟩ := i16_of g2
  obtain rfl := List.head_eq_of_cons_eq e2
  obtain ⟨a3, e3, w3⟩ := i64_of g3
  obtain rfl := List.head_eq_of_cons_eq e3
  obtain ⟨a5, e5, w5⟩ := i64_of g5
  obtain rfl := List.head_eq_of_cons_eq e5
  exact ⟨fl, hfu, a0, a1, a2, a3, c4, a5, y4, rfl, w0, w1, w2, w3, ⟨g4, k4⟩, w5, by omega⟩
theorem fields_Stmt {fuel : Nat} {cs : List Value} {x : DataW H × List MemPlace} (h : TrodL enc w spare held fuel 44 cs = some x) (hb : Rows.uptoBulk x.1 ≤ 1048576) :
    ∃ fl, fuel = fl + 1 ∧ ∃ (a0 : Int) (a1 : ByteArray) (a2 : Int) (a3 : Value) (a4 : Value) (a5 : Value) (a6 : Int) (y3 : DataW H × List MemPlace) (y4 : DataW H × List MemPlace) (y5 : DataW H × List MemPlace), cs = [.int .i64 a0, .string a1, .int .i64 a2, a3, a4, a5, .int .i64 a6] ∧ I64 a0 ∧ Str a1 ∧ I64 a2 ∧ (TrodL enc w spare held fl 38 [a3] = some y3 ∧ Rows.uptoBulk y3.1 ≤ 1048576) ∧ (TrodL enc w spare held fl 42 [a4] = some y4 ∧ Rows.uptoBulk y4.1 ≤ 1048576) ∧ (TrodL enc w spare held fl 42 [a5] = some y5 ∧ Rows.uptoBulk y5.1 ≤ 1048576) ∧ I64 a6 ∧ a1.size + Rows.uptoBulk y3.1 + Rows.uptoBulk y4.1 + Rows.uptoBulk y5.1 + 1 ≤ Rows.uptoBulk x.1 := by
  obtain ⟨fl, hfu, hl, ys, hyl, hyb, hf⟩ := field_of Tryz.underlying44 h hb
  rw [show Tryz.prog.cellsOf 44 = 7 by kernel_rfl] at hl
  obtain ⟨c0, c1, c2, c3, c4, c5, c6, rfl⟩ := len7 hl
  obtain ⟨u0, u1, u2, u3, u4, u5, u6, rfl⟩ := len7 (show ys.length = 7 from hyl)
  simp only [Rows.uptoBulkAll] at hyb
  obtain ⟨y0, g0, k0, j0⟩ := hf 0 _ rfl
  obtain rfl : u0 = y0.1 := Option.some.inj j0
  replace g0 : TrodL enc w spare held fl 3 [c0] = some y0 := (congrArg (fun k => TrodL enc w spare held fl 3 (List.take k (List.drop 0 [c0, c1, c2, c3, c4, c5, c6]))) cells_int).symm.trans g0
  obtain ⟨y1, g1, k1, j1⟩ := hf 1 _ rfl
  obtain rfl : u1 = y1.1 := Option.some.inj j1
  replace g1 : TrodL enc w spare held fl 9 [c1] = some y1 := (congrArg (fun k => TrodL enc w spare held fl 9 (List.take k (List.drop 1 [c0, c1, c2, c3, c4, c5, c6]))) cells_str).symm.trans g1
  obtain ⟨y2, g2, k2, j2⟩ := hf 2 _ rfl
  obtain rfl : u2 = y2.1 := Option.some.inj j2
  replace g2 : TrodL enc w spare held fl 3 [c2] = some y2 := (congrArg (fun k => TrodL enc w spare held fl 3 (List.take k (List.drop 2 [c0, c1, c2, c3, c4, c5, c6]))) cells_int).symm.trans g2
  obtain ⟨y3, g3, k3, j3⟩ := hf 3 _ rfl
  obtain rfl : u3 = y3.1 := Option.some.inj j3
  replace g3 : TrodL enc w spare held fl 38 [c3] = some y3 := (congrArg (fun k => TrodL enc w spare held fl 38 (List.take k (List.drop 3 [c0, c1, c2, c3, c4, c5, c6]))) cells_exprs).symm.trans g3
  obtain ⟨y4, g4, k4, j4⟩ := hf 4 _ rfl
  obtain rfl : u4 = y4.1 := Option.some.inj j4
  replace g4 : TrodL enc w spare held fl 42 [c4] = some y4 := (congrArg (fun k => TrodL enc w spare held fl 42 (List.take k (List.drop 4 [c0, c1, c2, c3, c4, c5, c6]))) cells_stmts).symm.trans g4
  obtain ⟨y5, g5, k5, j5⟩ := hf 5 _ rfl
  obtain rfl : u5 = y5.1 := Option.some.inj j5
  replace g5 : TrodL enc w spare held fl 42 [c5] = some y5 := (congrArg (fun k => TrodL enc w spare held fl 42 (List.take k (List.drop 5 [c0, c1, c2, c3, c4, c5, c6]))) cells_stmts).symm.trans g5
  obtain ⟨y6, g6, k6, j6⟩ := hf 6 _ rfl
  obtain rfl : u6 = y6.1 := Option.some.inj j6
  replace g6 : TrodL enc w spare held fl 3 [c6] = some y6 := (congrArg (fun k => TrodL enc w spare held fl 3 (List.take k (List.drop 6 [c0, c1, c2, c3, c4, c5, c6]))) cells_int).symm.trans g6
  obtain ⟨a0, e0, w0⟩ := i64_of g0
  obtain rfl := List.head_eq_of_cons_eq e0
  obtain ⟨a1, e1, w1, z1⟩ := str_of g1 k1
  obtain rfl := List.head_eq_of_cons_eq e1
  obtain ⟨a2, e2, w2⟩ := i64_of g2
  obtain rfl := List.head_eq_of_cons_eq e2
  obtain ⟨a6, e6, w6⟩ := i64_of g6
  obtain rfl := List.head_eq_of_cons_eq e6
  exact ⟨fl, hfu, a0, a1, a2, c3, c4, c5, a6, y3, y4, y5, rfl, w0, w1, w2, ⟨g3, k3⟩, ⟨g4, k4⟩, ⟨g5, k5⟩, w6, by omega⟩
theorem fields_Const {fuel : Nat} {cs : List Value} {x : DataW H × List MemPlace} (h : TrodL enc w spare held fuel 67 cs = some x) (hb : Rows.uptoBulk x.1 ≤ 1048576) :
    ∃ fl, fuel = fl + 1 ∧ ∃ (a0 : ByteArray) (a1 : Int) (a2 : Int), cs = [.string a0, .int .i16 a1, .int .i64 a2] ∧ Str a0 ∧ I16 a1 ∧ I64 a2 ∧ a0.size + 1 ≤ Rows.uptoBulk x.1 := by
  obtain ⟨fl, hfu, hl, ys, hyl, hyb, hf⟩ := field_of Tryz.underlying67 h hb
  rw [show Tryz.prog.cellsOf 67 = 3 by kernel_rfl] at hl
  obtain ⟨c0, c1, c2, rfl⟩ := len3 hl
  obtain ⟨u0, u1, u2, rfl⟩ := len3 (show ys.length = 3 from hyl)
  simp only [Rows.uptoBulkAll] at hyb
  obtain ⟨y0, g0, k0, j0⟩ := hf 0 _ rfl
  obtain rfl : u0 = y0.1 := Option.some.inj j0
  replace g0 : TrodL enc w spare held fl 9 [c0] = some y0 := (congrArg (fun k => TrodL enc w spare held fl 9 (List.take k (List.drop 0 [c0, c1, c2]))) cells_str).symm.trans g0
  obtain ⟨y1, g1, k1, j1⟩ := hf 1 _ rfl
  obtain rfl : u1 = y1.1 := Option.some.inj j1
  replace g1 : TrodL enc w spare held fl 37 [c1] = some y1 := (congrArg (fun k => TrodL enc w spare held fl 37 (List.take k (List.drop 1 [c0, c1, c2]))) cells_i16).symm.trans g1
  obtain ⟨y2, g2, k2, j2⟩ := hf 2 _ rfl
  obtain rfl : u2 = y2.1 := Option.some.inj j2
  replace g2 : TrodL enc w spare held fl 3 [c2] = some y2 := (congrArg (fun k => TrodL enc w spare held fl 3 (List.take k (List.drop 2 [c0, c1, c2]))) cells_int).symm.trans g2
  obtain ⟨a0, e0, w0, z0⟩ := str_of g0 k0
  obtain rfl := List.head_eq_of_cons_eq e0
  obtain ⟨a1, e1, w1⟩ := i16_of g1
  obtain rfl := List.head_eq_of_cons_eq e1
  obtain ⟨a2, e2, w2⟩ := i64_of g2
  obtain rfl := List.head_eq_of_cons_eq e2
  exact ⟨fl, hfu, a0, a1, a2, rfl, w0, w1, w2, by omega⟩
theorem fields_Glob {fuel : Nat} {cs : List Value} {x : DataW H × List MemPlace} (h : TrodL enc w spare held fuel 69 cs = some x) (hb : Rows.uptoBulk x.1 ≤ 1048576) :
    ∃ fl, fuel = fl + 1 ∧ ∃ (a0 : ByteArray) (a1 : Int) (a2 : Int) (a3 : Int), cs = [.string a0, .int .i64 a1, .int .i16 a2, .int .i64 a3] ∧ Str a0 ∧ I64 a1 ∧ I16 a2 ∧ I64 a3 ∧ a0.size + 1 ≤ Rows.uptoBulk x.1 := by
  obtain ⟨fl, hfu, hl, ys, hyl, hyb, hf⟩ := field_of Tryz.underlying69 h hb
  rw [show Tryz.prog.cellsOf 69 = 4 by kernel_rfl] at hl
  obtain ⟨c0, c1, c2, c3, rfl⟩ := len4 hl
  obtain ⟨u0, u1, u2, u3, rfl⟩ := len4 (show ys.length = 4 from hyl)
  simp only [Rows.uptoBulkAll] at hyb
  obtain ⟨y0, g0, k0, j0⟩ := hf 0 _ rfl
  obtain rfl : u0 = y0.1 := Option.some.inj j0
  replace g0 : TrodL enc w spare held fl 9 [c0] = some y0 := (congrArg (fun k => TrodL enc w spare held fl 9 (List.take k (List.drop 0 [c0, c1, c2, c3]))) cells_str).symm.trans g0
  obtain ⟨y1, g1, k1, j1⟩ := hf 1 _ rfl
  obtain rfl : u1 = y1.1 := Option.some.inj j1
  replace g1 : TrodL enc w spare held fl 3 [c1] = some y1 := (congrArg (fun k => TrodL enc w spare held fl 3 (List.take k (List.drop 1 [c0, c1, c2, c3]))) cells_int).symm.trans g1
  obtain ⟨y2, g2, k2, j2⟩ := hf 2 _ rfl
  obtain rfl : u2 = y2.1 := Option.some.inj j2
  replace g2 : TrodL enc w spare held fl 37 [c2] = some y2 := (congrArg (fun k => TrodL enc w spare held fl 37 (List.take k (List.drop 2 [c0, c1, c2, c3]))) cells_i16).symm.trans g2
  obtain ⟨y3, g3, k3, j3⟩ := hf 3 _ rfl
  obtain rfl : u3 = y3.1 := Option.some.inj j3
  replace g3 : TrodL enc w spare held fl 3 [c3] = some y3 := (congrArg (fun k => TrodL enc w spare held fl 3 (List.take k (List.drop 3 [c0, c1, c2, c3]))) cells_int).symm.trans g3
  obtain ⟨a0, e0, w0, z0⟩ := str_of g0 k0
  obtain rfl := List.head_eq_of_cons_eq e0
  obtain ⟨a1, e1, w1⟩ := i64_of g1
  obtain rfl := List.head_eq_of_cons_eq e1
  obtain ⟨a2, e2, w2⟩ := i16_of g2
  obtain rfl := List.head_eq_of_cons_eq e2
  obtain ⟨a3, e3, w3⟩ := i64_of g3
  obtain rfl := List.head_eq_of_cons_eq e3
  exact ⟨fl, hfu, a0, a1, a2, a3, rfl, w0, w1, w2, w3, by omega⟩
theorem fields_Chan {fuel : Nat} {cs : List Value} {x : DataW H × List MemPlace} (h : TrodL enc w spare held fuel 97 cs = some x) (hb : Rows.uptoBulk x.1 ≤ 1048576) :
    ∃ fl, fuel = fl + 1 ∧ ∃ (a0 : ByteArray) (a1 : Int) (a2 : Int), cs = [.string a0, .int .i64 a1, .int .i64 a2] ∧ Str a0 ∧ I64 a1 ∧ I64 a2 ∧ a0.size + 1 ≤ Rows.uptoBulk x.1 := by
  obtain ⟨fl, hfu, hl, ys, hyl, hyb, hf⟩ := field_of Tryz.underlying97 h hb
  rw [show Tryz.prog.cellsOf 97 = 3 by kernel_rfl] at hl
  obtain ⟨c0, c1, c2, rfl⟩ := len3 hl
  obtain ⟨u0, u1, u2, rfl⟩ := len3 (show ys.length = 3 from hyl)
  simp only [Rows.uptoBulkAll] at hyb
  obtain ⟨y0, g0, k0, j0⟩ := hf 0 _ rfl
  obtain rfl : u0 = y0.1 := Option.some.inj j0
  replace g0 : TrodL enc w spare held fl 9 [c0] = some y0 := (congrArg (fun k => TrodL enc w spare held fl 9 (List.take k (List.drop 0 [c0, c1, c2]))) cells_str).symm.trans g0
  obtain ⟨y1, g1, k1, j1⟩ := hf 1 _ rfl
  obtain rfl : u1 = y1.1 := Option.some.inj j1
  replace g1 : TrodL enc w spare held fl 3 [c1] = some y1 := (congrArg (fun k => TrodL enc w spare held fl 3 (List.take k (List.drop 1 [c0, c1, c2]))) cells_int).symm.trans g1
  obtain ⟨y2, g2, k2, j2⟩ := hf 2 _ rfl
  obtain rfl : u2 = y2.1 := Option.some.inj j2
  replace g2 : TrodL enc w spare held fl 3 [c2] = some y2 := (congrArg (fun k => TrodL enc w spare held fl 3 (List.take k (List.drop 2 [c0, c1, c2]))) cells_int).symm.trans g2
  obtain ⟨a0, e0, w0, z0⟩ := str_of g0 k0
  obtain rfl := List.head_eq_of_cons_eq e0
  obtain ⟨a1, e1, w1⟩ := i64_of g1
  obtain rfl := List.head_eq_of_cons_eq e1
  obtain ⟨a2, e2, w2⟩ := i64_of g2
  obtain rfl := List.head_eq_of_cons_eq e2
  exact ⟨fl, hfu, a0, a1, a2, rfl, w0, w1, w2, by omega⟩
theorem fields_Task {fuel : Nat} {cs : List Value} {x : DataW H × List MemPlace} (h : TrodL enc w spare held fuel 53 cs = some x) (hb : Rows.uptoBulk x.1 ≤ 1048576) :
    ∃ fl, fuel = fl + 1 ∧ ∃ (a0 : ByteArray) (a1 : Int) (a2 : Int) (a3 : ByteArray) (a4 : ByteArray) (a5 : Int) (a6 : Value) (a7 : Int) (y6 : DataW H × List MemPlace), cs = [.string a0, .int .i64 a1, .int .i64 a2, .string a3, .string a4, .int .i64 a5, a6, .int .i64 a7] ∧ Str a0 ∧ I64 a1 ∧ I64 a2 ∧ Str a3 ∧ Str a4 ∧ I64 a5 ∧ (TrodL enc w spare held fl 42 [a6] = some y6 ∧ Rows.uptoBulk y6.1 ≤ 1048576) ∧ I64 a7 ∧ a0.size + a3.size + a4.size + Rows.uptoBulk y6.1 + 1 ≤ Rows.uptoBulk x.1 := by
  obtain ⟨fl, hfu, hl, ys, hyl, hyb, hf⟩ := field_of Tryz.underlying53 h hb
  rw [show Tryz.prog.cellsOf 53 = 8 by kernel_rfl] at hl
  obtain ⟨c0, c1, c2, c3, c4, c5, c6, c7, rfl⟩ := len8 hl
  obtain ⟨u0, u1, u2, u3, u4, u5, u6, u7, rfl⟩ := len8 (show ys.length = 8 from hyl)
  simp only [Rows.uptoBulkAll] at hyb
  obtain ⟨y0, g0, k0, j0⟩ := hf 0 _ rfl
  obtain rfl : u0 = y0.1 := Option.some.inj j0
  replace g0 : TrodL enc w spare held fl 9 [c0] = some y0 := (congrArg (fun k => TrodL enc w spare held fl 9 (List.take k (List.drop 0 [c0, c1, c2, c3, c4, c5, c6, c7]))) cells_str).symm.trans g0
  obtain ⟨y1, g1, k1, j1⟩ := hf 1 _ rfl
  obtain rfl : u1 = y1.1 := Option.some.inj j1
  replace g1 : TrodL enc w spare held fl 3 [c1] = some y1 := (congrArg (fun k => TrodL enc w spare held fl 3 (List.take k (List.drop 1 [c0, c1, c2, c3, c4, c5, c6, c7]))) cells_int).symm.trans g1
  obtain ⟨y2, g2, k2, j2⟩ := hf 2 _ rfl
  obtain rfl : u2 = y2.1 := Option.some.inj j2
  replace g2 : TrodL enc w spare held fl 3 [c2] = some y2 := (congrArg (fun k => TrodL enc w spare held fl 3 (List.take k (List.drop 2 [c0, c1, c2, c3, c4, c5, c6, c7]))) cells_int).symm.trans g2
  obtain ⟨y3, g3, k3, j3⟩ := hf 3 _ rfl
  obtain rfl : u3 = y3.1 := Option.some.inj j3
  replace g3 : TrodL enc w spare held fl 9 [c3] = some y3 := (congrArg (fun k => TrodL enc w spare held fl 9 (List.take k (List.drop 3 [c0, c1, c2, c3, c4, c5, c6, c7]))) cells_str).symm.trans g3
  obtain ⟨y4, g4, k4, j4⟩ := hf 4 _ rfl
  obtain rfl : u4 = y4.1 := Option.some.inj j4
  replace g4 : TrodL enc w spare held fl 9 [c4] = some y4 := (congrArg (fun k => TrodL enc w spare held fl 9 (List.take k (List.drop 4 [c0, c1, c2, c3, c4, c5, c6, c7]))) cells_str).symm.trans g4
  obtain ⟨y5, g5, k5, j5⟩ := hf 5 _ rfl
  obtain rfl : u5 = y5.1 := Option.some.inj j5
  replace g5 : TrodL enc w spare held fl 3 [c5] = some y5 := (congrArg (fun k => TrodL enc w spare held fl 3 (List.take k (List.drop 5 [c0, c1, c2, c3, c4, c5, c6, c7]))) cells_int).symm.trans g5
  obtain ⟨y6, g6, k6, j6⟩ := hf 6 _ rfl
  obtain rfl : u6 = y6.1 := Option.some.inj j6
  replace g6 : TrodL enc w spare held fl 42 [c6] = some y6 := (congrArg (fun k => TrodL enc w spare held fl 42 (List.take k (List.drop 6 [c0, c1, c2, c3, c4, c5, c6, c7]))) cells_stmts).symm.trans g6
  obtain ⟨y7, g7, k7, j7⟩ := hf 7 _ rfl
  obtain rfl : u7 = y7.1 := Option.some.inj j7
  replace g7 : TrodL enc w spare held fl 3 [c7] = some y7 := (congrArg (fun k => TrodL enc w spare held fl 3 (List.take k (List.drop 7 [c0, c1, c2, c3, c4, c5, c6, c7]))) cells_int).symm.trans g7
  obtain ⟨a0, e0, w0, z0⟩ := str_of g0 k0
  obtain rfl := List.head_eq_of_cons_eq e0
  obtain ⟨a1, e1, w1⟩ := i64_of g1
  obtain rfl := List.head_eq_of_cons_eq e1
  obtain ⟨a2, e2, w2⟩ := i64_of g2
  obtain rfl := List.head_eq_of_cons_eq e2
  obtain ⟨a3, e3, w3, z3⟩ := str_of g3 k3
  obtain rfl := List.head_eq_of_cons_eq e3
  obtain ⟨a4, e4, w4, z4⟩ := str_of g4 k4
  obtain rfl := List.head_eq_of_cons_eq e4
  obtain ⟨a5, e5, w5⟩ := i64_of g5
  obtain rfl := List.head_eq_of_cons_eq e5
  obtain ⟨a7, e7, w7⟩ := i64_of g7
  obtain rfl := List.head_eq_of_cons_eq e7
  exact ⟨fl, hfu, a0, a1, a2, a3, a4, a5, c6, a7, y6, rfl, w0, w1, w2, w3, w4, w5, ⟨g6, k6⟩, w7, by omega⟩
theorem fields_Prog {fuel : Nat} {cs : List Value} {x : DataW H × List MemPlace} (h : TrodL enc w spare held fuel 28 cs = some x) (hb : Rows.uptoBulk x.1 ≤ 1048576) :
    ∃ fl, fuel = fl + 1 ∧ ∃ (a0 : Value) (a1 : Value) (a2 : Value) (a3 : Value) (a4 : Value) (a5 : Value) (y0 : DataW H × List MemPlace) (y1 : DataW H × List MemPlace) (y2 : DataW H × List MemPlace) (y3 : DataW H × List MemPlace) (y4 : DataW H × List MemPlace) (y5 : DataW H × List MemPlace), cs = [a0, a1, a2, a3, a4, a5] ∧ (TrodL enc w spare held fl 22 [a0] = some y0 ∧ Rows.uptoBulk y0.1 ≤ 1048576) ∧ (TrodL enc w spare held fl 23 [a1] = some y1 ∧ Rows.uptoBulk y1.1 ≤ 1048576) ∧ (TrodL enc w spare held fl 24 [a2] = some y2 ∧ Rows.uptoBulk y2.1 ≤ 1048576) ∧ (TrodL enc w spare held fl 24 [a3] = some y3 ∧ Rows.uptoBulk y3.1 ≤ 1048576) ∧ (TrodL enc w spare held fl 25 [a4] = some y4 ∧ Rows.uptoBulk y4.1 ≤ 1048576) ∧ (TrodL enc w spare held fl 26 [a5] = some y5 ∧ Rows.uptoBulk y5.1 ≤ 1048576) ∧ Rows.uptoBulk y0.1 + Rows.uptoBulk y1.1 + Rows.uptoBulk y2.1 + Rows.uptoBulk y3.1 + Rows.uptoBulk y4.1 + Rows.uptoBulk y5.1 + 1 ≤ Rows.uptoBulk x.1 := by
  obtain ⟨fl, hfu, hl, ys, hyl, hyb, hf⟩ := field_of Tryz.underlying28 h hb
  rw [show Tryz.prog.cellsOf 28 = 6 by kernel_rfl] at hl
  obtain ⟨c0, c1, c2, c3, c4, c5, rfl⟩ := len6 hl
  obtain ⟨u0, u1, u2, u3, u4, u5, rfl⟩ := len6 (show ys.length = 6 from hyl)
  simp only [Rows.uptoBulkAll] at hyb
  obtain ⟨y0, g0, k0, j0⟩ := hf 0 _ rfl
  obtain rfl : u0 = y0.1 := Option.some.inj j0
  replace g0 : TrodL enc w spare held fl 22 [c0] = some y0 := (congrArg (fun k => TrodL enc w spare held fl 22 (List.take k (List.drop 0 [c0, c1, c2, c3, c4, c5]))) cells_consts).symm.trans g0
  obtain ⟨y1, g1, k1, j1⟩ := hf 1 _ rfl
  obtain rfl : u1 = y1.1 := Option.some.inj j1
  replace g1 : TrodL enc w spare held fl 23 [c1] = some y1 := (congrArg (fun k => TrodL enc w spare held fl 23 (List.take k (List.drop 1 [c0, c1, c2, c3, c4, c5]))) cells_globs).symm.trans g1
  obtain ⟨y2, g2, k2, j2⟩ := hf 2 _ rfl
  obtain rfl : u2 = y2.1 := Option.some.inj j2
  replace g2 : TrodL enc w spare held fl 24 [c2] = some y2 := (congrArg (fun k => TrodL enc w spare held fl 24 (List.take k (List.drop 2 [c0, c1, c2, c3, c4, c5]))) cells_strs).symm.trans g2
  obtain ⟨y3, g3, k3, j3⟩ := hf 3 _ rfl
  obtain rfl : u3 = y3.1 := Option.some.inj j3
  replace g3 : TrodL enc w spare held fl 24 [c3] = some y3 := (congrArg (fun k => TrodL enc w spare held fl 24 (List.take k (List.drop 3 [c0, c1, c2, c3, c4, c5]))) cells_strs).symm.trans g3
  obtain ⟨y4, g4, k4, j4⟩ := hf 4 _ rfl
  obtain rfl : u4 = y4.1 := Option.some.inj j4
  replace g4 : TrodL enc w spare held fl 25 [c4] = some y4 := (congrArg (fun k => TrodL enc w spare held fl 25 (List.take k (List.drop 4 [c0, c1, c2, c3, c4, c5]))) cells_chans).symm.trans g4
  obtain ⟨y5, g5, k5, j5⟩ := hf 5 _ rfl
  obtain rfl : u5 = y5.1 := Option.some.inj j5
  replace g5 : TrodL enc w spare held fl 26 [c5] = some y5 := (congrArg (fun k => TrodL enc w spare held fl 26 (List.take k (List.drop 5 [c0, c1, c2, c3, c4, c5]))) cells_tasks).symm.trans g5
  exact ⟨fl, hfu, c0, c1, c2, c3, c4, c5, y0, y1, y2, y3, y4, y5, rfl, ⟨g0, k0⟩, ⟨g1, k1⟩, ⟨g2, k2⟩, ⟨g3, k3⟩, ⟨g4, k4⟩, ⟨g5, k5⟩, by omega⟩
end

section
variable {H : Type} {enc : TypeId × Value → H} {w : World} {spare : Nat → Bool} {held : Bool}
theorem cellsN (t : TypeId) (n : Nat) (h : Tryz.prog.cellsOf t = n) : Tryz.prog.cellsOf t = n := h

theorem eszs_bulk : ∀ (l : List Expr) (ys : List (DataW H)), (∀ i, i < l.length → ∃ d, ys[i]? = some d ∧ esz (l.getD i default) ≤ Rows.uptoBulk d) → eszs l ≤ Rows.uptoBulkAll ys
  | [], _, _ => by simp [eszs]
  | x :: l, [], h => by obtain ⟨d, hd, _⟩ := h 0 (by simp); simp at hd
  | x :: l, y :: ys, h => by
    have := eszs_bulk l ys (fun i hi => by simpa using h (i + 1) (by simpa using hi))
    obtain ⟨d, hd, hz⟩ := h 0 (by simp)
    simp at hd hz
    subst hd
    simp only [eszs, Rows.uptoBulkAll]
    omega
theorem sszs_bulk : ∀ (l : List Stmt) (ys : List (DataW H)), (∀ i, i < l.length → ∃ d, ys[i]? = some d ∧ ssz (l.getD i default) ≤ Rows.uptoBulk d) → sszs l ≤ Rows.uptoBulkAll ys
  | [], _, _ => by simp [sszs]
  | x :: l, [], h => by obtain ⟨d, hd, _⟩ := h 0 (by simp); simp at hd
  | x :: l, y :: ys, h => by
    have := sszs_bulk l ys (fun i hi => by simpa using h (i + 1) (by simpa using hi))
    obtain ⟨d, hd, hz⟩ := h 0 (by simp)
    simp at hd hz
    subst hd
    simp only [sszs, Rows.uptoBulkAll]
    omega
/-- slices of what leads no further -/
theorem flat_of {α : Type} [Inhabited α] {f : α → List Value} {sz : Nat} (hf : ∀ x, (f x).length = sz) {Wf : α → Prop} {t e : Nat} {fuel : Nat} {v : Value} {x : DataW H × List MemPlace} (ht : Tryz.prog.underlying t = some (.slice e)) (hc : Tryz.prog.cellsOf e = sz) (hsz : 0 < sz)
    (hel : ∀ (fl : Nat) (cs : List Value) (y : DataW H × List MemPlace), TrodL enc w spare held fl e cs = some y → Rows.uptoBulk y.1 ≤ 1048576 → ∃ z : α, cs = f z ∧ Wf z)
    (h : TrodL enc w spare held fuel t [v] = some x) (hb : Rows.uptoBulk x.1 ≤ 1048576) : ∃ l : List α, FlatAt f sz w.heap.size w v l ∧ ∀ i, i < l.length → Wf (l.getD i default) := by
  obtain ⟨n, oa, cap, rfl, h1, h2, h3, fl, _, b, off, h4, ys, hys, hyb, h5⟩ := slice_of ht hc hsz h hb
  obtain ⟨l, hl, hq⟩ := list_of (fun i (z : α) => CellsAt w b (off + i * sz) (f z) ∧ Wf z) n (fun i hi => by
    obtain ⟨cs, y, q1, q2, q3, q4, q5⟩ := h5 i hi
    obtain ⟨z, rfl, hw⟩ := hel fl cs y q3 q4
    exact ⟨z, q2, hw⟩)
  subst hl
  exact ⟨l, ⟨oa, cap, rfl, h1, h2, h3, fun hp => ⟨b, off, (h4 hp).1, (h4 hp).2, fun i hi => ⟨hf _, (hq i hi).1⟩⟩⟩, fun i hi => (hq i hi).2⟩

instance : Inhabited Value := ⟨.nilFunc⟩
theorem exprs_of : ∀ (m fuel : Nat) (v : Value) (x : DataW H × List MemPlace), fuel ≤ m → TrodL enc w spare held fuel 38 [v] = some x → Rows.uptoBulk x.1 ≤ 1048576 → ∃ l, ExprsAt w.heap.size w v l ∧ eszs l + 1 ≤ Rows.uptoBulk x.1 := by
  intro m
  induction m with
  | zero =>
    intro fuel v x hm h
    obtain rfl : fuel = 0 := by omega
    simp [TrodL, DataW.trod] at h
  | succ m ih =>
  intro fuel v x hm h hb
  obtain ⟨n, oa, cap, rfl, h1, h2, h3, fl, hfl, b, off, h4, ys, hys, hyb, h5⟩ := slice_of Tryz.underlying38 (sz := 6) (by kernel_rfl) (by omega) h hb
  obtain ⟨l, hl, hq⟩ := list_of (fun i (z : Expr × Value) => CellsAt w b (off + i * 6) (z.1.cells z.2) ∧ z.1.Wf ∧ ExprsAt w.heap.size w z.2 z.1.args ∧ ∃ d, ys[i]? = some d ∧ esz z.1 ≤ Rows.uptoBulk d) n (fun i hi => by
    obtain ⟨cs, y, q1, q2, q3, q4, q5⟩ := h5 i hi
    obtain ⟨fl2, hf2, a0, a1, a2, a3, a4, a5, y4, rfl, w0, w1, w2, w3, ⟨g4, k4⟩, w5, hsum⟩ := fields_Expr q3 q4
    have := hfl (by omega)
    obtain ⟨args, hargs, hsz⟩ := ih fl2 a4 y4 (by omega) g4 k4
    exact ⟨(⟨a0, a1, a2, a3, args, a5⟩, a4), q2, ⟨w0, w1, w2, w3, w5⟩, hargs, y.1, q5, by rw [esz_eq]; show 1 + a1.size + eszs args ≤ _; omega⟩)
  subst hl
  have hg : ∀ i, i < l.length → (l.map (·.1)).getD i default = (l.getD i default).1 := fun i hi => by simp [List.getD, hi]
  have hes := eszs_bulk (l.map (·.1)) ys (fun i hi => by rw [List.length_map] at hi; rw [hg i hi]; exact (hq i hi).2.2.2)
  refine ⟨l.map (·.1), ?_, by omega⟩
  refine .mk _ _ (fun i => (l.getD i default).2) ⟨oa, cap, by rw [List.length_map], by simpa using h1, h2, by simpa using h3, fun hp => ?_⟩ (fun i hi => ?_) (fun i hi => ?_)
  · rw [List.length_map] at hp
    refine ⟨b, off, (h4 hp).1, (h4 hp).2, fun i hi => ⟨rfl, ?_⟩⟩
    rw [List.length_map] at hi
    dsimp only
    rw [hg i hi]
    exact (hq i hi).1
  · rw [List.length_map] at hi
    rw [hg i hi]
    exact (hq i hi).2.1
  · rw [List.length_map] at hi
    rw [hg i hi]
    exact (hq i hi).2.2.1
theorem stmts_of : ∀ (m fuel : Nat) (v : Value) (x : DataW H × List MemPlace), fuel ≤ m → TrodL enc w spare held fuel 42 [v] = some x → Rows.uptoBulk x.1 ≤ 1048576 → ∃ l, StmtsAt w.heap.size w v l ∧ sszs l + 1 ≤ Rows.uptoBulk x.1 := by
  intro m
  induction m with
  | zero =>
    intro fuel v x hm h
    obtain rfl : fuel = 0 := by omega
    simp [TrodL, DataW.trod] at h
  | succ m ih =>
  intro fuel v x hm h hb
  obtain ⟨n, oa, cap, rfl, h1, h2, h3, fl, hfl, b, off, h4, ys, hys, hyb, h5⟩ := slice_of Tryz.underlying42 (sz := 7) (by kernel_rfl) (by omega) h hb
  obtain ⟨l, hl, hq⟩ := list_of (fun i (z : Stmt × Value × Value × Value) => CellsAt w b (off + i * 7) (z.1.cells z.2.1 z.2.2.1 z.2.2.2) ∧ z.1.Wf ∧ ExprsAt w.heap.size w z.2.1 z.1.args ∧ StmtsAt w.heap.size w z.2.2.1 z.1.body ∧ StmtsAt w.heap.size w z.2.2.2 z.1.els ∧ ∃ d, ys[i]? = some d ∧ ssz z.1 ≤ Rows.uptoBulk d) n (fun i hi => by
    obtain ⟨cs, y, q1, q2, q3, q4, q5⟩ := h5 i hi
    obtain ⟨fl2, hf2, a0, a1, a2, a3, a4, a5, a6, y3, y4, y5, rfl, w0, w1, w2, ⟨g3, k3⟩, ⟨g4, k4⟩, ⟨g5, k5⟩, w6, hsum⟩ := fields_Stmt q3 q4
    have := hfl (by omega)
    obtain ⟨args, hargs, hs1⟩ := exprs_of fl2 fl2 a3 y3 (Nat.le_refl _) g3 k3
    obtain ⟨body, hbody, hs2⟩ := ih fl2 a4 y4 (by omega) g4 k4
    obtain ⟨els, hels, hs3⟩ := ih fl2 a5 y5 (by omega) g5 k5
    exact ⟨(⟨a0, a1, a2, args, body, els, a6⟩, a3, a4, a5), q2, ⟨w0, w1, w2, w6⟩, hargs, hbody, hels, y.1, q5, by rw [ssz_eq]; show 1 + a1.size + eszs args + sszs body + sszs els ≤ _; omega⟩)
  subst hl
  have hg : ∀ i, i < l.length → (l.map (·.1)).getD i default = (l.getD i default).1 := fun i hi => by simp [List.getD, hi]
  have hes := sszs_bulk (l.map (·.1)) ys (fun i hi => by rw [List.length_map] at hi; rw [hg i hi]; exact (hq i hi).2.2.2.2.2)
  refine ⟨l.map (·.1), ?_, by omega⟩
  refine .mk _ _ (fun i => (l.getD i default).2.1) (fun i => (l.getD i default).2.2.1) (fun i => (l.getD i default).2.2.2) ⟨oa, cap, by rw [List.length_map], by simpa using h1, h2, by simpa using h3, fun hp => ?_⟩ (fun i hi => ?_) (fun i hi => ?_) (fun i hi => ?_) (fun i hi => ?_)
  · rw [List.length_map] at hp
    refine ⟨b, off, (h4 hp).1, (h4 hp).2, fun i hi => ⟨rfl, ?_⟩⟩
    rw [List.length_map] at hi
    dsimp only
    rw [hg i hi]
    exact (hq i hi).1
  all_goals
    rw [List.length_map] at hi
    rw [hg i hi]
  · exact (hq i hi).2.1
  · exact (hq i hi).2.2.1
  · exact (hq i hi).2.2.2.1
  · exact (hq i hi).2.2.2.2.1
theorem tasks_of {fuel : Nat} {v : Value} {x : DataW H × List MemPlace} (h : TrodL enc w spare held fuel 26 [v] = some x) (hb : Rows.uptoBulk x.1 ≤ 1048576) : ∃ l, TasksAt w.heap.size w v l ∧ ∀ i, i < l.length → sszs (l.getD i default).body ≤ 1048576 := by
  obtain ⟨n, oa, cap, rfl, h1, h2, h3, fl, hfl, b, off, h4, ys, hys, hyb, h5⟩ := slice_of Tryz.underlying26 (sz := 8) (by kernel_rfl) (by omega) h hb
  obtain ⟨l, hl, hq⟩ := list_of (fun i (z : Task × Value) => CellsAt w b (off + i * 8) (z.1.cells z.2) ∧ z.1.Wf ∧ StmtsAt w.heap.size w z.2 z.1.body ∧ sszs z.1.body ≤ 1048576) n (fun i hi => by
    obtain ⟨cs, y, q1, q2, q3, q4, q5⟩ := h5 i hi
    obtain ⟨fl2, hf2, a0, a1, a2, a3, a4, a5, a6, a7, y6, rfl, w0, w1, w2, w3, w4, w5, ⟨g6, k6⟩, w7, hsum⟩ := fields_Task q3 q4
    obtain ⟨body, hbody, hs1⟩ := stmts_of fl2 fl2 a6 y6 (Nat.le_refl _) g6 k6
    exact ⟨(⟨a0, a1, a2, a3, a4, a5, body, a7⟩, a6), q2, ⟨w0, w1, w2, w3, w4, w5, w7⟩, hbody, by show sszs body ≤ _; omega⟩)
  subst hl
  have hg : ∀ i, i < l.length → (l.map (·.1)).getD i default = (l.getD i default).1 := fun i hi => by simp [List.getD, hi]
  refine ⟨l.map (·.1), ⟨fun i => (l.getD i default).2, ⟨oa, cap, by rw [List.length_map], by simpa using h1, h2, by simpa using h3, fun hp => ?_⟩, fun i hi => ?_⟩, fun i hi => by rw [List.length_map] at hi; rw [hg i hi]; exact (hq i hi).2.2.2⟩
  · rw [List.length_map] at hp
    refine ⟨b, off, (h4 hp).1, (h4 hp).2, fun i hi => ⟨rfl, ?_⟩⟩
    rw [List.length_map] at hi
    dsimp only
    rw [hg i hi]
    exact (hq i hi).1
  · rw [List.length_map] at hi
    rw [hg i hi]
    exact ⟨(hq i hi).2.1, (hq i hi).2.2.1⟩
/-- a program that reads -/
theorem prog_of {fuel : Nat} {cs : List Value} {x : DataW H × List MemPlace} (h : TrodL enc w spare held fuel 28 cs = some x) (hb : Rows.uptoBulk x.1 ≤ 1048576) :
    ∃ v0 v1 v2 v3 v4 v5 p, cs = [v0, v1, v2, v3, v4, v5] ∧ ProgAt w.heap.size w v0 v1 v2 v3 v4 v5 p ∧ ∀ t ∈ p.tasks, sszs t.body ≤ 1048576 := by
  obtain ⟨fl, hf, a0, a1, a2, a3, a4, a5, y0, y1, y2, y3, y4, y5, rfl, ⟨g0, k0⟩, ⟨g1, k1⟩, ⟨g2, k2⟩, ⟨g3, k3⟩, ⟨g4, k4⟩, ⟨g5, k5⟩, _⟩ := fields_Prog h hb
  obtain ⟨l0, f0, q0⟩ := flat_of (f := Const.cells) (Wf := Const.Wf) (sz := 3) (fun _ => rfl) Tryz.underlying22 (by kernel_rfl) (by omega) (fun fl cs y hy hk => by
    obtain ⟨_, _, b0, b1, b2, rfl, w0, w1, w2, _⟩ := fields_Const hy hk
    exact ⟨⟨b0, b1, b2⟩, rfl, w0, w1, w2⟩) g0 k0
  obtain ⟨l1, f1, q1⟩ := flat_of (f := Glob.cells) (Wf := Glob.Wf) (sz := 4) (fun _ => rfl) Tryz.underlying23 (by kernel_rfl) (by omega) (fun fl cs y hy hk => by
    obtain ⟨_, _, b0, b1, b2, b3, rfl, w0, w1, w2, w3, _⟩ := fields_Glob hy hk
    exact ⟨⟨b0, b1, b2, b3⟩, rfl, w0, w1, w2, w3⟩) g1 k1
  obtain ⟨l2, f2, q2⟩ := flat_of (f := strCells) (Wf := Str) (sz := 1) (fun _ => rfl) Tryz.underlying24 (by kernel_rfl) (by omega) (fun fl cs y hy hk => by
    obtain ⟨s, rfl, hs, _⟩ := str_of hy hk
    exact ⟨s, rfl, hs⟩) g2 k2
  obtain ⟨l3, f3, q3⟩ := flat_of (f := strCells) (Wf := Str) (sz := 1) (fun _ => rfl) Tryz.underlying24 (by kernel_rfl) (by omega) (fun fl cs y hy hk => by
    obtain ⟨s, rfl, hs, _⟩ := str_of hy hk
    exact ⟨s, rfl, hs⟩) g3 k3
  obtain ⟨l4, f4, q4⟩ := flat_of (f := Chan.cells) (Wf := Chan.Wf) (sz := 3) (fun _ => rfl) Tryz.underlying25 (by kernel_rfl) (by omega) (fun fl cs y hy hk => by
    obtain ⟨_, _, b0, b1, b2, rfl, w0, w1, w2, _⟩ := fields_Chan hy hk
    exact ⟨⟨b0, b1, b2⟩, rfl, w0, w1, w2⟩) g4 k4
  obtain ⟨l5, f5, f6⟩ := tasks_of g5 k5
  exact ⟨a0, a1, a2, a3, a4, a5, ⟨l0, l1, l2, l3, l4, l5⟩, rfl, ⟨f0, f1, f2, f3, f4, f5, q0, q1, q2, q3, q4⟩, fun t ht => by
    obtain ⟨i, hi⟩ := List.getElem?_of_mem ht
    have hl := (List.getElem?_eq_some_iff.1 hi).1
    have := f6 i hl
    rwa [show l5.getD i default = t by simp [List.getD, hi]] at this⟩
end
end Go.Proofs.YtkfdnlfkomhmfaaGreatDoor
