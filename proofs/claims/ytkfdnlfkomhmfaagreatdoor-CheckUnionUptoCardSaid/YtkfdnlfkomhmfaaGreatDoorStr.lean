/- Strings: the keywords, identifiers; whether a slice contains a string, a number. -/
import Derived.Test.YtkfdnlfkomhmfaaGreatDoorOwn
import Derived.Test.YtkfdnlfkomhmfaaGreatDoorLater
import Derived.Test.YtkfdnlfkomhmfaaGreatDoorShelf
namespace Go.Proofs.YtkfdnlfkomhmfaaGreatDoor
open Go.RowKit
set_option linter.unusedVariables false
set_option linter.unusedSimpArgs false

def FoundS (l : List ByteArray) (v : ByteArray) (w : World) (e : Ending) (w' : World) : Prop := ∃ i : Int, e = .returned (.int .i64 i) ∧ w' = w ∧ -1 ≤ i ∧ i ≤ 1048576 ∧ (0 ≤ i ↔ v ∈ l)
theorem IndexS_any (N : Nat) (oa : Option Addr) (n cap : Nat) (l : List ByteArray) (v : ByteArray) (w : World) (hs : StrsAt N w (.slice oa n cap) l) (hn : n = l.length) :
    Calls Tryz.prog 138 #[.slice oa n cap, .string v] w (FoundS l v w) := by
  obtain ⟨_, _, e, h1, h2, h3⟩ := SliceAt.slice hs
  cases e
  clear hn
  go_enter Tryz.func138, Tryz.ntmps138
  go_wp2_with fail
  go_loop [8] (fun i => ∃ k : Nat, k ≤ l.length ∧ i = .int .i64 k ∧ ∀ j : Nat, j < k → l[j]? ≠ some v) (fun i => l.length - (intOf i).toNat)
  case atStart => exact ⟨0, Nat.zero_le _, rfl, fun j hj => by omega⟩
  case round =>
    obtain ⟨k, hk, rfl, hno⟩ := hrel
    have HN := Lib.hid hno
    clear hno
    by_cases hlt : k < l.length
    · obtain ⟨x, b, off, hx, rfl, hb, c0⟩ := StrsAt.at hs hlt
      have HX := Lib.hid hx
      clear hx
      by_cases hv : v = x
      · subst hv
        have hvb := ba_eq (rfl : v = v)
        go_wp2_with fail
        go_ret
        refine ⟨k, rfl, rfl, by omega, by omega, ?_⟩
        exact ⟨fun _ => List.mem_of_getElem? HX.out, fun _ => by omega⟩
      · have hvb := ba_ne hv
        have HV := Lib.hid hv
        clear hv
        go_wp2_with fail
        go_round
        case rel =>
          refine ⟨k + 1, by omega, by go_num, fun j hj => ?_⟩
          by_cases e : j = k
          · subst e; rw [HX.out]; intro h; cases h; exact HV.out rfl
          · exact HN.out j (by omega)
        case measure => simp [intOf]; omega
    · have : k = l.length := by omega
      subst this
      go_wp2_with fail
      go_ret
      refine ⟨-1, rfl, rfl, by omega, by omega, ⟨fun h => by omega, fun h => ?_⟩⟩
      obtain ⟨j, hj⟩ := List.getElem?_of_mem h
      exact absurd hj (HN.out j (List.getElem?_eq_some_iff.1 hj).1)
theorem ContainsS_any (N : Nat) (oa : Option Addr) (n cap : Nat) (l : List ByteArray) (v : ByteArray) (w : World) (hs : StrsAt N w (.slice oa n cap) l) (hn : n = l.length) :
    Calls Tryz.prog 105 #[.slice oa n cap, .string v] w fun e w' => e = .returned (.bool (decide (v ∈ l))) ∧ w' = w := by
  have hc := Lib.hid (IndexS_any N oa n cap l v w hs hn)
  clear hn hs
  go_enter Tryz.func105, Tryz.ntmps105
  go_wp2_with (go_at_call 138; refine hc.out.mono ?_; rintro e w' ⟨i, rfl, rfl, h1, h2, h3⟩; have H3 := Lib.hid h3; clear h1 h2 h3)
  go_ret
  refine ⟨ret_bool ?_, rfl⟩
  by_cases hv : v ∈ l
  · have := H3.out.2 hv; simp [hv, this]
  · have : i < 0 := by have := H3.out; rcases Int.lt_or_le i 0 with h | h; exact h; exact absurd (this.1 h) hv
    simp [hv, this]

def FoundI (l : List Int) (v : Int) (w : World) (e : Ending) (w' : World) : Prop := ∃ i : Int, e = .returned (.int .i64 i) ∧ w' = w ∧ -1 ≤ i ∧ i ≤ 1048576 ∧ (0 ≤ i ↔ v ∈ l)
theorem IndexI_any (N : Nat) (oa : Option Addr) (n cap : Nat) (l : List Int) (v : Int) (w : World) (hs : IntsAt N w (.slice oa n cap) l) (hn : n = l.length) :
    Calls Tryz.prog 132 #[.slice oa n cap, .int .i64 v] w (FoundI l v w) := by
  obtain ⟨_, _, e, h1, h2, h3⟩ := SliceAt.slice hs
  cases e
  clear hn
  go_enter Tryz.func132, Tryz.ntmps132
  go_wp2_with fail
  go_loop [8] (fun i => ∃ k : Nat, k ≤ l.length ∧ i = .int .i64 k ∧ ∀ j : Nat, j < k → l[j]? ≠ some v) (fun i => l.length - (intOf i).toNat)
  case atStart => exact ⟨0, Nat.zero_le _, rfl, fun j hj => by omega⟩
  case round =>
    obtain ⟨k, hk, rfl, hno⟩ := hrel
    have HN := Lib.hid hno
    clear hno
    by_cases hlt : k < l.length
    · obtain ⟨x, b, off, hx, rfl, hb, c0⟩ := IntsAt.at hs hlt
      have HX := Lib.hid hx
      clear hx
      by_cases hv : v = x
      · subst hv
        have hvb := (show (v == v) = true by simp)
        go_wp2_with fail
        go_ret
        refine ⟨k, rfl, rfl, by omega, by omega, ?_⟩
        exact ⟨fun _ => List.mem_of_getElem? HX.out, fun _ => by omega⟩
      · have hvb := (show (v == x) = false by simp [hv])
        have HV := Lib.hid hv
        clear hv
        go_wp2_with fail
        go_round
        case rel =>
          refine ⟨k + 1, by omega, by go_num, fun j hj => ?_⟩
          by_cases e : j = k
          · subst e; rw [HX.out]; intro h; cases h; exact HV.out rfl
          · exact HN.out j (by omega)
        case measure => simp [intOf]; omega
    · have : k = l.length := by omega
      subst this
      go_wp2_with fail
      go_ret
      refine ⟨-1, rfl, rfl, by omega, by omega, ⟨fun h => by omega, fun h => ?_⟩⟩
      obtain ⟨j, hj⟩ := List.getElem?_of_mem h
      exact absurd hj (HN.out j (List.getElem?_eq_some_iff.1 hj).1)
theorem ContainsI_any (N : Nat) (oa : Option Addr) (n cap : Nat) (l : List Int) (v : Int) (w : World) (hs : IntsAt N w (.slice oa n cap) l) (hn : n = l.length) :
    Calls Tryz.prog 98 #[.slice oa n cap, .int .i64 v] w fun e w' => e = .returned (.bool (decide (v ∈ l))) ∧ w' = w := by
  have hc := Lib.hid (IndexI_any N oa n cap l v w hs hn)
  clear hn hs
  go_enter Tryz.func98, Tryz.ntmps98
  go_wp2_with (go_at_call 132; refine hc.out.mono ?_; rintro e w' ⟨i, rfl, rfl, h1, h2, h3⟩; have H3 := Lib.hid h3; clear h1 h2 h3)
  go_ret
  refine ⟨ret_bool ?_, rfl⟩
  by_cases hv : v ∈ l
  · have := H3.out.2 hv; simp [hv, this]
  · have : i < 0 := by have := H3.out; rcases Int.lt_or_le i 0 with h | h; exact h; exact absurd (this.1 h) hv
    simp [hv, this]

def kws : List ByteArray := [⟨#[99, 104, 97, 110, 110, 101, 108]⟩, ⟨#[99, 104, 101, 99, 107, 112, 111, 105, 110, 116]⟩, ⟨#[99, 111, 110, 115, 116]⟩, ⟨#[100, 101, 97, 100, 108, 105, 110, 101]⟩, ⟨#[101, 108, 115, 101]⟩, ⟨#[101, 109, 105, 116]⟩, ⟨#[101, 118, 101, 114, 121]⟩, ⟨#[102, 114, 101, 115, 104]⟩, ⟨#[105, 102]⟩, ⟨#[108, 101, 116]⟩, ⟨#[111, 110]⟩, ⟨#[111, 117, 116, 112, 117, 116]⟩, ⟨#[114, 101, 97, 100]⟩, ⟨#[114, 101, 112, 101, 97, 116]⟩, ⟨#[114, 101, 116, 117, 114, 110]⟩, ⟨#[115, 101, 110, 100]⟩, ⟨#[115, 101, 110, 115, 111, 114]⟩, ⟨#[116, 97, 115, 107]⟩, ⟨#[116, 111, 103, 101, 116, 104, 101, 114]⟩, ⟨#[118, 97, 114]⟩, ⟨#[119, 104, 105, 108, 101]⟩, ⟨#[119, 105, 116, 104, 105, 110]⟩]

theorem infoStr : (Tryz.prog.info? 9).map (fun i => (i.zero, i.size, i.bytes)) = some (some (.string ⟨#[]⟩), 1, 16) := by kernel_rfl
theorem kws_cells : kws.flatMap strCells = kws.map Value.string := by simp [kws, strCells]
set_option maxRecDepth 10000 in
theorem Keywords_any (w : World) : Calls Tryz.prog 122 #[] w fun e w' => ∃ v, e = .returned v ∧ OwnAt strCells 1 9 w.heap.size w' v kws ∧ Below w.heap.size w w' := by
  go_enter Tryz.func122, Tryz.ntmps122
  go_wp2
  go_ret
  refine ⟨_, rfl, ⟨by kernel_rfl, .inr ⟨w.heap.size, 22, _, rfl, Nat.le_refl _, heap_alloc_new _ _, by decide, by decide, by kernel_rfl, by kernel_rfl⟩⟩, (Below.refl _ _).alloc (Nat.le_refl _) _⟩

def kwText : ByteArray := ⟨#[99, 104, 97, 110, 110, 101, 108, 32, 99, 104, 101, 99, 107, 112, 111, 105, 110, 116, 32, 99, 111, 110, 115, 116, 32, 100, 101, 97, 100, 108, 105, 110, 101, 32, 101, 108, 115, 101, 32, 101, 109, 105, 116, 32, 101, 118, 101, 114, 121, 32, 102, 114, 101, 115, 104, 32, 105, 102, 32, 108, 101, 116, 32, 111, 110, 32, 111, 117, 116, 112, 117, 116, 32, 114, 101, 97, 100, 32, 114, 101, 112, 101, 97, 116, 32, 114, 101, 116, 117, 114, 110, 32, 115, 101, 110, 100, 32, 115, 101, 110, 115, 111, 114, 32, 116, 97, 115, 107, 32, 116, 111, 103, 101, 116, 104, 101, 114, 32, 118, 97, 114, 32, 119, 104, 105, 108, 101, 32, 119, 105, 116, 104, 105, 110]⟩
set_option maxRecDepth 100000 in
theorem kw_fields : (Lib.fields kwText.data.toList).map (fun l => Value.string ⟨l.toArray⟩) = kws.flatMap strCells := by kernel_rfl
set_option maxRecDepth 100000 in
theorem kw_ascii : ∀ (j : Nat) (b : UInt8), kwText.data.toList[j]? = some b → b.toNat < 128 := by
  have h : kwText.data.toList.all (fun b => decide (b.toNat < 128)) = true := by kernel_rfl
  intro j b hj
  have := List.all_eq_true.1 h b (List.mem_of_getElem? hj)
  simpa using this
/-- the library's table of white space lies as its text lays it -/
abbrev SpaceTab (w : World) : Prop := Lib.TabIs Tryz.prog w "strings.asciiSpace" .u8 Lib.asciiSpaceTab
theorem SpaceTab.later {w w' : World} (h : SpaceTab w) (hb : Below w.heap.size w w') : SpaceTab w' := by
  have h' : w.var? Tryz.prog "strings.asciiSpace" = some ((Lib.asciiSpaceTab).map fun z => Value.int .u8 z).toArray := h
  show w'.var? Tryz.prog "strings.asciiSpace" = some ((Lib.asciiSpaceTab).map fun z => Value.int .u8 z).toArray
  unfold World.var? at h' ⊢
  cases hg : Tryz.prog.globalNamed "strings.asciiSpace" with
  | none => rw [hg] at h'; cases h'
  | some g =>
    rw [hg] at h'
    simp only [Option.bind_some] at h' ⊢
    have hlt : g < w.heap.size := by
      cases ho : w.heap[g]? with
      | none => rw [ho] at h'; cases h'
      | some o => exact (Array.getElem?_eq_some_iff.1 ho).1
    rw [hb.block g hlt]
    exact h'
set_option maxRecDepth 100000 in
theorem keywords_any (w : World) (hT : SpaceTab w) : Calls Tryz.prog 106 #[] w fun e w' => ∃ v, e = .returned v ∧ OwnAt strCells 1 9 w.heap.size w' v kws ∧ Below w.heap.size w w' := by
  have hc := Tryz.strings_Fields kwText w (by decide) kw_ascii hT
  rw [kw_fields] at hc
  have H := Lib.hid hc
  clear hc
  go_enter Tryz.func106, Tryz.ntmps106
  go_wp2_with (go_at_call 139; refine H.out.mono ?_; rintro e w' ⟨rfl, rfl⟩)
  go_ret
  refine ⟨_, rfl, ?_, (Below.refl _ _).alloc (Nat.le_refl _) _⟩
  exact ⟨by kernel_rfl, .inr ⟨w.heap.size, 22, _, rfl, Nat.le_refl _, heap_alloc_new _ _, by decide, by decide, by kernel_rfl, by kernel_rfl⟩⟩
end Go.Proofs.YtkfdnlfkomhmfaaGreatDoor
