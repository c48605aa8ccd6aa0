/- A map with string keys that the call has made: any elements. -/
import Derived.Test.YtkfdnlfkomhmfaaGreatDoorOwn
import Derived.StringKeys
import Derived.ChangeMaps4
import Derived.Maps.Own
namespace Go.Proofs.YtkfdnlfkomhmfaaGreatDoor
open Go.RowKit Go.MapKept Go.ChangeMaps
set_option linter.unusedVariables false
set_option linter.unusedSimpArgs false

def findS (s : ByteArray) : List MapEntry → Option Value
  | [] => none
  | e :: es => match e.key with
    | .string a => if s = a then some e.val else findS s es
    | _ => none
def StrKeys (l : List MapEntry) : Prop := ∀ x ∈ l, ∃ a, x.key = .string a
def Upd (F : ByteArray → Option Value) (s : ByteArray) (u : Value) : ByteArray → Option Value := fun s' => if s' = s then some u else F s'

theorem sameNow_str (s a : ByteArray) : Instr.sameNow .string (.string s) (.string a) = some (decide (s = a)) := by
  simp only [Instr.sameNow, beq_toListBytes, ba_beq]

theorem findNow_str (s : ByteArray) (u : Value) (l : List MapEntry) (hk : StrKeys l) : ∀ i, (Instr.findNow .string (.string s) l i = some none ∧ findS s l = none) ∨
    (∃ j v e, Instr.findNow .string (.string s) l i = some (some (i + j, v)) ∧ findS s l = some v ∧ l[j]? = some e ∧ e.key = .string s ∧
      ∀ s', findS s' (l.modify j fun e => { e with key := .string s, val := u }) = Upd (fun s' => findS s' l) s u s') := by
  induction l with
  | nil => intro i; exact .inl ⟨rfl, rfl⟩
  | cons e es ih =>
    intro i
    obtain ⟨a, ha⟩ := hk e (by simp)
    have ih' := ih (fun x hx => hk x (by simp [hx])) (i + 1)
    by_cases h : s = a
    · refine .inr ⟨0, e.val, e, ?_, ?_, rfl, by rw [ha, h], fun s' => ?_⟩
      · simp [Instr.findNow, ha, sameNow_str, h]
      · simp [findS, ha, h]
      · simp only [List.modify_zero_cons, findS, ha, Upd]
        subst h
        by_cases hs : s' = s
        · simp [hs]
        · simp [hs]
    · rcases ih' with ⟨h1, h2⟩ | ⟨j, v, e', h1, h2, h3, h4, h5⟩
      · exact .inl ⟨by simp [Instr.findNow, ha, sameNow_str, h, h1], by simp [findS, ha, h, h2]⟩
      · refine .inr ⟨j + 1, v, e', ?_, ?_, by simpa using h3, h4, fun s' => ?_⟩
        · simp [Instr.findNow, ha, sameNow_str, h, h1]; omega
        · simp [findS, ha, h, h2]
        · simp only [List.modify_succ_cons, findS, ha, Upd]
          have := h5 s'
          simp only [Upd] at this
          rw [this]
          by_cases hs : s' = s
          · have : ¬ s' = a := by rw [hs]; exact h
            simp [this, hs, h]
          · simp [hs]

theorem findS_push (s : ByteArray) (u : Value) (n : Nat) (l : List MapEntry) (hk : StrKeys l) (hn : findS s l = none) : ∀ s', findS s' (l ++ [{ key := .string s, val := u, born := n }]) = Upd (fun s' => findS s' l) s u s' := by
  intro s'
  induction l with
  | nil => simp [findS, Upd]
  | cons e es ih =>
    obtain ⟨a, ha⟩ := hk e (by simp)
    have hne : ¬ s = a := by
      intro h
      simp [findS, ha, h] at hn
    have hn2 : findS s es = none := by simpa [findS, ha, hne] using hn
    have := ih (fun x hx => hk x (by simp [hx])) hn2
    simp only [List.cons_append, findS, ha, Upd] at this ⊢
    rw [this]
    by_cases hs : s' = a
    · have : ¬ s' = s := by rw [hs]; exact fun h => hne h.symm
      simp [hs, this]
      intro h; exact absurd h.symm hne
    · simp [hs]

/-- block b of w is a map with string keys that reads as F -/
def MapS (w : World) (b : Nat) (F : ByteArray → Option Value) : Prop :=
  ∃ es clock, w.heap[b]? = some (.map es clock) ∧ StrKeys es.toList ∧ ∀ s, F s = findS s es.toList

theorem MapS.lt {w : World} {b : Nat} {F : ByteArray → Option Value} (h : MapS w b F) : b < w.heap.size := by
  obtain ⟨es, c, h, _⟩ := h; exact (Array.getElem?_eq_some_iff.1 h).1
theorem MapS.kept {w w' : World} {b : Nat} {F : ByteArray → Option Value} (h : MapS w b F) (hb : w'.heap[b]? = w.heap[b]?) : MapS w' b F := by
  obtain ⟨es, c, h, r⟩ := h; exact ⟨es, c, by rw [hb]; exact h, r⟩
theorem MapS.later {w w' : World} {b : Nat} {F : ByteArray → Option Value} (h : MapS w b F) (hb : Below w.heap.size w w') : MapS w' b F := h.kept (hb.block b h.lt)
theorem MapS.made (w : World) : MapS (w.alloc (.map #[] 0)) w.heap.size (fun _ => none) := ⟨#[], 0, heap_alloc_new w _, by intro x hx; simp at hx, fun s => rfl⟩

theorem MapS.lookup {P : Program} {w : World} {b : Nat} {F : ByteArray → Option Value} (h : MapS w b F) {t k e : TypeId} (ht : P.underlying t = some (.map k e)) (hk : P.underlying k = some .string)
    {z : Value} (hz : (zeroValue e).run P w = .ok z w) (s : ByteArray) : (Instr.lookup t (.map (some b)) (.string s) true).run P w = .ok (.tuple #[(F s).getD z, .bool (F s).isSome]) w := by
  obtain ⟨es, c, hb, hs, hF⟩ := h
  have hck := run_checkKey (P := P) (w := w) (kt := k) (d := .string) (k := .string s) hk trivial es.isEmpty 9999
  rcases findNow_str s .nilFunc es.toList hs 0 with ⟨h1, h2⟩ | ⟨j, v, e', h1, h2, _⟩
  · rw [hF, h2]
    simp [Instr.lookup, run_underlying ht, Go.MapKept.run_getObj_map hb, hck, run_findKey hk h1, hz, Result.andThen]
  · rw [hF, h2]
    simp [Instr.lookup, run_underlying ht, Go.MapKept.run_getObj_map hb, hck, run_findKey hk h1, Result.andThen]

theorem MapS.update {P : Program} {w : World} {b : Nat} {F : ByteArray → Option Value} (h : MapS w b F) {t k e : TypeId} (ht : P.underlying t = some (.map k e)) (hk : P.underlying k = some .string)
    (s : ByteArray) (u : Value) : ∃ w', (Instr.mapUpdate t (.map (some b)) (.string s) u).run P w = .ok () w' ∧ MapS w' b (Upd F s u) ∧ w.grownBy w' (some b) := by
  obtain ⟨es, c, hb, hs, hF⟩ := h
  have hck := run_checkKey (P := P) (w := w) (kt := k) (d := .string) (k := .string s) hk trivial false 9999
  have hFF : F = fun s => findS s es.toList := funext hF
  have hgb : ∀ o, w.grownBy (setBlock w b o) (some b) := fun o => ⟨rfl, rfl, rfl, by simp [setBlock], fun k hk hne => by
    have : k ≠ b := fun h => hne (by rw [h])
    simp [setBlock, Ne.symm this]⟩
  rcases findNow_str s u es.toList hs 0 with ⟨h1, h2⟩ | ⟨j, v, e', h1, h2, h3, h4, h5⟩
  · refine ⟨setBlock w b (.map (es.push { key := .string s, val := u, born := c }) (c + 1)), ?_, ⟨_, _, (heap_set hb).1, ?_, fun s' => ?_⟩, hgb _⟩
    · simp [Instr.mapUpdate, run_underlying ht, Go.MapKept.run_getObj_map hb, hck, run_findKey hk h1, Go.MapKept.run_setObj_map _ hb, Result.andThen, setBlock]
    · intro x hx
      simp at hx
      rcases hx with hx | rfl
      · exact hs x (by simpa using hx)
      · exact ⟨s, rfl⟩
    · rw [hFF, Array.toList_push, findS_push s u c es.toList hs h2]
  · have hj : es[j]? = some e' := by simpa using h3
    refine ⟨setBlock w b (.map (es.modify j fun e => { e with key := .string s, val := u }) c), ?_, ⟨_, _, (heap_set hb).1, ?_, fun s' => ?_⟩, hgb _⟩
    · simp [Instr.mapUpdate, run_underlying ht, Go.MapKept.run_getObj_map hb, hck, run_findKey hk h1, hj, h4, run_keyThatStays (d := .string) (k := .string s) trivial, Go.MapKept.run_setObj_map _ hb, Result.andThen, setBlock]
    · intro x hx
      rw [Array.toList_modify] at hx
      obtain ⟨i, hi⟩ := List.getElem?_of_mem hx
      rw [List.getElem?_modify] at hi
      by_cases hij : j = i
      · simp [hij] at hi
        obtain ⟨y, _, rfl⟩ := hi
        exact ⟨s, rfl⟩
      · simp [hij] at hi
        exact hs x (by simpa using Array.mem_of_getElem? hi)
    · rw [hFF, Array.toList_modify, h5]
end Go.Proofs.YtkfdnlfkomhmfaaGreatDoor
