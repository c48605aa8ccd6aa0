/- Lookup: the reference's. -/
import Derived.Test.YtkfdnlfkomhmfaaGreatDoorLook
import Derived.Test.YtkfdnlfkomhmfaaGreatDoorTask
namespace Go.Proofs.YtkfdnlfkomhmfaaGreatDoor
open Go.RowKit
set_option linter.unusedVariables false
set_option linter.unusedSimpArgs false

theorem OwnAt.declAt {E : TypeId} {B : Nat} {w : World} {oa : Option Addr} {n cap : Nat} {l : List Decl} (h : OwnAt Decl.cells 4 E B w (.slice oa n cap) l) {k : Nat} (hk : k < l.length) :
    ∃ x b, l[k]? = some x ∧ oa = some ⟨b, 0, none⟩ ∧ b < w.heap.size ∧ w.cell? ⟨b, k * 4, none⟩ = some (.string x.name) ∧ w.cell? ⟨b, k * 4 + 1, none⟩ = some (.int .i64 x.kind) ∧
      w.cell? ⟨b, k * 4 + 2, none⟩ = some (.int .i64 x.index) ∧ w.cell? ⟨b, k * 4 + 3, none⟩ = some (.int .i64 x.pos) := by
  have hh := h
  rcases h.2 with ⟨e, hn⟩ | ⟨g, cap', cur, e, hg, hw, h1, h2, h3, h4⟩
  · omega
  · cases e
    have hc : ∀ j, j < 4 → w.cell? ⟨g, k * 4 + j, none⟩ = (Decl.cells (l.getD k default))[j]? := fun j hj => by
      have := World.ownsRow.cellAt hh (k * 4 + j) (by omega)
      rw [flat_get decl_len l k j hk hj] at this
      exact this
    exact ⟨l.getD k default, g, getD_some hk, rfl, (Array.getElem?_eq_some_iff.1 hw).1, hc 0 (by omega), hc 1 (by omega), hc 2 (by omega), hc 3 (by omega)⟩
theorem find_hit {l : List Decl} {k : Nat} {x : Decl} {s : ByteArray} (h : (l.take k).find? (fun d => decide (d.name = s)) = none) (hx : l[k]? = some x) (hs : x.name = s) : l.find? (fun d => decide (d.name = s)) = some x := by
  obtain ⟨hk, rfl⟩ := List.getElem?_eq_some_iff.1 hx
  have e : l = l.take k ++ l[k] :: l.drop (k + 1) := by rw [← List.drop_eq_getElem_cons hk, List.take_append_drop]
  rw [show l.find? (fun d => decide (d.name = s)) = (l.take k ++ l[k] :: l.drop (k + 1)).find? (fun d => decide (d.name = s)) from congrArg _ e, List.find?_append, h, List.find?_cons]
  simp only [hs, decide_true, Option.none_or]
theorem find_miss {l : List Decl} {k : Nat} {x : Decl} {s : ByteArray} (h : (l.take k).find? (fun d => decide (d.name = s)) = none) (hx : l[k]? = some x) (hs : ¬ x.name = s) : (l.take (k + 1)).find? (fun d => decide (d.name = s)) = none := by
  rw [take_snoc hx, List.find?_append, h]
  simp [hs]

set_option maxRecDepth 100000 in
set_option maxHeartbeats 4000000 in
theorem rLookup_any (p : Prog) (s : ByteArray) (v0 v1 v2 v3 v4 v5 : Value) (N : Nat) (w : World) (hp : ProgAt N w v0 v1 v2 v3 v4 v5 p) (hN : N ≤ w.heap.size) :
    Calls Tryz.prog 16 #[.agg #[v0, v1, v2, v3, v4, v5], .string s] w fun e w' => e = .returned (lookV (namesOf p) s) ∧ Below w.heap.size w w' := by
  obtain ⟨o0, q0, rfl, _, _, n0⟩ := SliceAt.slice hp.consts
  obtain ⟨o1, q1, rfl, _, _, n1⟩ := SliceAt.slice hp.globals
  obtain ⟨o2, q2, rfl, _, _, n2⟩ := SliceAt.slice hp.sensors
  obtain ⟨o3, q3, rfl, _, _, n3⟩ := SliceAt.slice hp.outputs
  obtain ⟨o4, q4, rfl, _, _, n4⟩ := SliceAt.slice hp.channels
  obtain ⟨o5, q5, rfl, _, _, n5⟩ := hp.tasks.slice
  have hnl : (namesOf p).length ≤ 7000000 := by unfold namesOf; simp; omega
  go_enter Tryz.func16, Tryz.ntmps16
  go_wp2_with (go_at_call 30; refine (Names_any p _ _ _ _ _ _ N _ (hp.kept (fun b hb => Below.heap_alloc _ _ _ (by omega))) (by simp; omega)).mono ?_; rintro e w1 ⟨v, rfl, hO, hB1⟩; obtain ⟨oa, cap, rfl, _, _⟩ := hO.slice)
  have hB := Below.after hB1
  have hBs := hB.size
  generalize hL : namesOf p = L at *
  have HLL := Lib.hid hL
  clear hL hB1
  go_loopw [12] (fun i wr => ∃ k : Nat, k ≤ L.length ∧ i = .int .i64 k ∧ (L.take k).find? (fun d => decide (d.name = s)) = none ∧ Below w1.heap.size w1 wr) (fun i _ => L.length - (intOf i).toNat)
  case atStart => exact ⟨0, Nat.zero_le _, rfl, rfl, Below.refl _ _⟩
  case round =>
    obtain ⟨k, hk, rfl, hok, hB2⟩ := hrel
    rename World => wr
    have HOK := Lib.hid hok
    clear hok
    have hB2s := hB2.size
    have hBt : Below w.heap.size w wr := hB.trans (hB2.mono hBs)
    by_cases hlt : k < L.length
    · obtain ⟨x, b, hx, rfl, hb, c0, c1, c2, c3⟩ := OwnAt.declAt (hO.later hB2) hlt
      have HX := Lib.hid hx
      clear hx
      go_upto_region 4 with fail
      have z0 : (wr.alloc (.cells #[.string x.name, .int .i64 x.kind, .int .i64 x.index, .int .i64 x.pos] 65)).cell? ⟨wr.heap.size, 0, none⟩ = some (.string x.name) := cell_first rfl
      have z1 : (wr.alloc (.cells #[.string x.name, .int .i64 x.kind, .int .i64 x.index, .int .i64 x.pos] 65)).cell? ⟨wr.heap.size, 1, none⟩ = some (.int .i64 x.kind) := cell_first rfl
      have z2 : (wr.alloc (.cells #[.string x.name, .int .i64 x.kind, .int .i64 x.index, .int .i64 x.pos] 65)).cell? ⟨wr.heap.size, 2, none⟩ = some (.int .i64 x.index) := cell_first rfl
      have hZ := (Below.refl wr.heap.size wr).alloc (Nat.le_refl _) (.cells #[.string x.name, .int .i64 x.kind, .int .i64 x.index, .int .i64 x.pos] 65)
      generalize wr.alloc (.cells #[.string x.name, .int .i64 x.kind, .int .i64 x.index, .int .i64 x.pos] 65) = Z at hZ z0 z1 z2 ⊢
      by_cases hs : x.name = s
      · have heq : (x.name.toList == s.toList) = true := ba_eq hs
        have hf := find_hit HOK.out HX.out hs
        have HV := Lib.hid (show lookV (namesOf p) s = .tuple #[.int .i64 x.kind, .int .i64 x.index, .bool true] by rw [HLL.out]; simp [lookV, lookK, lookI, lookB, hf])
        clear hs hf
        go_wp2_with fail
        go_quiet (fail)
        go_wp2_with fail
        exact bodyPost_ret (v := .tuple #[.int .i64 x.kind, .int .i64 x.index, .bool true]) (by simp [results, Tryz.results16, go_sem]) rfl ⟨by rw [HV.out], below_drewN (hBt.trans (hZ.mono hBt.size)) _⟩
      · have heq : (x.name.toList == s.toList) = false := ba_ne hs
        have HNX := Lib.hid (find_miss HOK.out HX.out hs)
        clear hs
        go_wp2_with fail
        go_roundw
        case rel => first | exact ⟨k + 1, by omega, by go_num, HNX.out, by (repeat (first | exact Below.refl _ _ | assumption | apply Below.push | (refine Below.step (by assumption) ?_)))⟩ | ((repeat apply Exists.intro); exact ⟨⟨k + 1, by omega, by go_num, HNX.out, by (repeat (first | exact Below.refl _ _ | assumption | apply Below.push | (refine Below.step (by assumption) ?_)))⟩, rfl⟩)
        case measure => simp [intOf]; omega
    · have hk2 : k = L.length := by omega
      subst hk2
      have hf : L.find? (fun d => decide (d.name = s)) = none := by have := HOK.out; rwa [List.take_length] at this
      have HV := Lib.hid (show lookV (namesOf p) s = .tuple #[.int .i64 0, .int .i64 0, .bool false] by rw [HLL.out]; simp [lookV, lookK, lookI, lookB, hf])
      clear hf
      go_wp2_with fail
      exact bodyPost_ret (v := .tuple #[.int .i64 0, .int .i64 0, .bool false]) (by simp [results, Tryz.results16, go_sem]) rfl ⟨by rw [HV.out], hBt⟩
end Go.Proofs.YtkfdnlfkomhmfaaGreatDoor
