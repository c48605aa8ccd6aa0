/- List.All: a sorted copy. -/
import Derived.Test.YtkfdnlfkomhmfaaGreatDoorCmp
namespace Go.Proofs.YtkfdnlfkomhmfaaGreatDoor
open Go.RowKit Go.Sort Go.Shelf
set_option linter.unusedVariables false
set_option linter.unusedSimpArgs false

theorem holds_of_own {E : TypeId} {B g cap : Nat} {w : World} {l : List Diag} (h : OwnAt Diag.cells 2 E B w (.slice (some ⟨g, 0, none⟩) l.length cap) l) : HoldsK Diag.cells 2 w g 0 l.toArray := by
  intro t ht
  have hs : t < l.length * 2 := by simpa using ht
  have hi : t / 2 < l.length := by omega
  have hj : t % 2 < 2 := Nat.mod_lt _ (by omega)
  have e : t = t / 2 * 2 + t % 2 := by omega
  have hcell := World.ownsRow.cellAt h t (by omega)
  have hg := flat_get (f := Diag.cells) diag_len l (t / 2) (t % 2) hi hj
  rw [← e] at hg
  rw [hg] at hcell
  refine ⟨?_, ?_⟩
  · rw [Nat.zero_add, hcell, get_flatK _ _ _ _ (by simpa using hs)]
    have hd : l.toArray[t / 2]! = l.getD (t / 2) default := by
      rw [getElem!_pos l.toArray (t / 2) (by simpa using hi)]
      simp [List.getD, List.getElem?_eq_getElem hi]
    rw [hd, getElem?_pos (Diag.cells (l.getD (t / 2) default)) (t % 2) (by rw [diag_len]; exact hj), getElem!_pos (Diag.cells (l.getD (t / 2) default)) (t % 2) (by rw [diag_len]; exact hj)]
    rfl
  · obtain ⟨_, h2⟩ := h
    rcases h2 with ⟨e', hn⟩ | ⟨g', cap', cur, e', hg', hw, _⟩
    · cases e'
    · cases e'
      simp [World.frozen?, hw]
theorem flat_of_holds {w : World} {g cap : Nat} {d : Array Diag} (h : HoldsK Diag.cells 2 w g 0 d) (hg : g < w.heap.size) (hs : d.size ≤ 1048576) (hc : d.size ≤ cap) (hcap : cap ≤ 9223372036854775807) :
    DiagsAt w.heap.size w (.slice (some ⟨g, 0, none⟩) d.size cap) d.toList := by
  refine ⟨_, cap, rfl, by simpa using hc, hcap, by simpa using hs, fun _ => ⟨g, 0, rfl, hg, fun i hi => ⟨diag_len _, fun j v hv => ?_⟩⟩⟩
  have hi' : i < d.size := by simpa using hi
  have hj : j < 2 := by have := (List.getElem?_eq_some_iff.1 hv).1; rwa [diag_len] at this
  have hcl := (h.cell hi' hj).1
  rw [hcl, ← hv]
  have hd : d[i]! = d.toList.getD i default := by
    rw [getElem!_pos d i hi']
    simp [List.getD, hi']
  rw [hd, getElem!_pos (Diag.cells (d.toList.getD i default)) j (by rw [diag_len]; exact hj), getElem?_pos (Diag.cells (d.toList.getD i default)) j (by rw [diag_len]; exact hj)]

theorem sorted_below {w : World} {g n : Nat} {d : Array Diag} {os : Array Obj} {B : Nat} (hg : B ≤ g) (hB : B ≤ w.heap.size) : Below B w (sortWorldK Diag.cells 2 w g 0 n d os) := by
  refine ⟨rfl, rfl, rfl, ?_, fun k hk => ?_⟩
  · simp [sortWorldK, grow, putRowK, putRow, mapBlock, ahead]
  · show ((w.heap.modify g _) ++ os)[k]? = _
    have hlt : k < w.heap.size := by omega
    rw [Array.getElem?_append_left (by simpa using hlt), Array.getElem?_modify, if_neg (by omega)]
theorem swoD : SWO (ltOf cmpD) where
  irrefl x := by rw [ltOf_cmpD, ltD_irrefl]
  trans x y z h1 h2 := by rw [ltOf_cmpD] at *; exact ltD_trans h1 h2
  ntrans x y z h1 h2 := by
    rw [ltOf_cmpD] at *
    by_cases h3 : x = y
    · rw [h3]; exact h2
    · by_cases h4 : y = z
      · rw [← h4]; exact h1
      · have a := (ltD_total h3).resolve_left (by simp [h1])
        have b := (ltD_total h4).resolve_left (by simp [h2])
        exact ltD_asymm (ltD_trans b a)

/-- what All answers: the same diagnostics, in order -/
def Sorted (l : List Diag) : Prop := ∀ i j : Nat, i < j → j < l.length → ltD (l.getD j default) (l.getD i default) = false

theorem isAggD : ∀ w, (isAgg 49).run Tryz.prog w = .ok true w := fun w => by kernel_rfl
theorem sizeOfD : ∀ w, (Go.sizeOf 49).run Tryz.prog w = .ok 2 w := fun w => by kernel_rfl

theorem OwnAt.empty0 {α : Type} (f : α → List Value) (sz : Nat) (E : TypeId) (w : World) : OwnAt f sz E w.heap.size (w.alloc (.cells #[] E)) (.slice (some ⟨w.heap.size, 0, none⟩) 0 0) ([] : List α) :=
  World.ownsRow_lit w #[] 0 (Nat.le_refl _) (by unfold maxLen; omega) (by simp)
theorem eqNil_some (ad : Addr) (n cap : Nat) (w : World) : (binOp .eql 32 (.slice (some ad) n cap) (.slice none 0 0)).run Tryz.prog w = .ok (.bool false) w := by kernel_rfl
theorem eqNil_none (n cap : Nat) (w : World) : (binOp .eql 32 (.slice none n cap) (.slice none 0 0)).run Tryz.prog w = .ok (.bool true) w := by kernel_rfl
set_option maxRecDepth 100000 in
set_option maxHeartbeats 1000000 in
theorem Clone_any (N : Nat) (oa : Option Addr) (cap : Nat) (l : List Diag) (w : World) (hs : DiagsAt N w (.slice oa l.length cap) l) (hN : N ≤ w.heap.size) :
    Calls Tryz.prog 78 #[.slice oa l.length cap] w fun e w' => ∃ v, e = .returned v ∧ OwnAt Diag.cells 2 49 w.heap.size w' v l ∧ Below w.heap.size w w' := by
  cases oa with
  | none =>
    have h0 : l = [] := by
      cases hl : l with
      | nil => rfl
      | cons y ys =>
        obtain ⟨_, _, e', _, _, _, h5⟩ := hs
        cases e'
        obtain ⟨b, off, e, _⟩ := h5 (by rw [hl]; simp)
        cases e
    subst h0
    clear hs
    have he := eqNil_none
    go_enter Tryz.func78, Tryz.ntmps78
    go_wp2_with fail
    go_ret
    exact ⟨_, rfl, OwnAt.nil _ _ _ _ _, Below.refl _ _⟩
  | some ad =>
    have hX := Lib.hid hs
    have he := eqNil_some ad
    obtain ⟨_, _, e', _, _, hn, _⟩ := hs
    cases e'
    have hX2 : DiagsAt N (w.alloc (.cells #[] 49)) (.slice (some ad) l.length cap) l := SliceAt.lift hX.out (((Below.refl w.heap.size w).alloc (Nat.le_refl _) _).mono hN)
    go_enter Tryz.func78, Tryz.ntmps78
    go_wp2_with (refine appendL rfl _ _ 32 rfl 49 Tryz.underlying32 infoDiag rfl (by decide) (by decide) diag_len diag_one (OwnAt.empty0 Diag.cells 2 _ w) rfl rfl hX2 (by simp; omega) (by simp) ?_; intro v1 w1 hO1 hg1 _)
    go_ret
    exact ⟨_, rfl, by simpa using hO1, ((Below.refl w.heap.size w).alloc (Nat.le_refl _) _).grown hg1 (by simp) (fun k e => by cases e; exact Nat.le_refl _)⟩

theorem cmpLaysD (blk off size : Nat) (w : World) : CmpLays Tryz.prog 80 #[] Diag.cells 2 cmpD blk off size w := fun _ _ _ _ x y => cmpD_any x y _
theorem egD : ∀ args w, (callFunc 80 args).run Tryz.prog w = .ok (.enter 80 args) w := enters_of Tryz.func80 (by kernel_rfl) rfl
set_option maxHeartbeats 4000000 in
theorem insNil_any (w : World) : Calls Tryz.prog 147 #[.slice none 0 0, .int .i64 0, .int .i64 0, .func (.func 80) #[] #[]] w fun e w' => e = .returned (.tuple #[]) ∧ w' = w := by
  go_enter Tryz.func147, Tryz.ntmps147
  go_wp2_with fail
  go_loopw [8] (fun i wr => i = .int .i64 1 ∧ wr = w) (fun i _ => 0)
  case atStart => exact ⟨rfl, rfl⟩
  case round =>
    obtain ⟨rfl, rfl⟩ := hrel
    go_wp2_with fail
    go_end0
    exact ⟨rfl, rfl⟩
set_option maxRecDepth 100000 in
set_option maxHeartbeats 4000000 in
theorem pdqNil_any (m : Int) (w : World) : Calls Tryz.prog 118 #[.slice none 0 0, .int .i64 0, .int .i64 0, .int .i64 m, .func (.func 80) #[] #[]] w fun e w' => e = .returned (.tuple #[]) ∧ w' = w := by
  go_enter Tryz.func118, Tryz.ntmps118
  go_wp2_with fail
  go_loopw [1, 2] (fun i j wr => i = .int .i64 0 ∧ j = .int .i64 0 ∧ wr = w) (fun i j _ => 0)
  case atStart => exact ⟨rfl, rfl, rfl⟩
  case round =>
    obtain ⟨rfl, rfl, rfl⟩ := hrel
    go_wp2_with (go_at_call 147; refine (insNil_any _).mono ?_; rintro e w' ⟨rfl, rfl⟩)
    refine bodyPost_ret (results_none rfl _ _ _) rfl ?_
    exact ⟨rfl, rfl⟩
theorem sortNil_any (w : World) : Calls Tryz.prog 79 #[.slice none 0 0, .func (.func 80) #[] #[]] w fun e w' => e = .returned (.tuple #[]) ∧ w' = w := by
  have hb : Calls Tryz.prog 119 #[.int .u64 0] w fun e w' => e = .returned (.int .i64 ((Lib.bitLen (0 : Int).toNat : Nat))) ∧ w' = w :=
    Any.bits_Len (SlLaysF0.n15.bits (P := Tryz.prog) { Tryz.sortD with }) 0 w (by omega) (by omega)
  generalize ((Lib.bitLen (0 : Int).toNat : Nat) : Int) = m at hb
  go_enter Tryz.func79, Tryz.ntmps79
  go_wp2_with (first
    | (go_at_call 119; refine hb.mono ?_; rintro e w' ⟨rfl, rfl⟩)
    | (go_at_call 118; refine (pdqNil_any _ _).mono ?_; rintro e w' ⟨rfl, rfl⟩))
  go_end0
  exact ⟨rfl, rfl⟩
theorem sortD_any {B : Nat} {w : World} {v : Value} {l : List Diag} (h : OwnAt Diag.cells 2 49 B w v l) (hl : l.length ≤ 1000000) (hB : B ≤ w.heap.size) :
    Calls Tryz.prog 79 #[v, .func (.func 80) #[] #[]] w fun e w' => e = .returned (.tuple #[]) ∧ Below B w w' ∧ ∃ l', l'.Perm l ∧ Sorted l' ∧ DiagsAt w'.heap.size w' v l' := by
  obtain ⟨oa, cap, rfl, hc1, hc2⟩ := h.slice
  have hh := h
  rcases h.2 with ⟨e, hn⟩ | ⟨g, cap', cur, e, hg, hw, _⟩
  · have h0 : l = [] := List.length_eq_zero_iff.1 hn
    subst h0
    simp at e
    obtain ⟨rfl, rfl⟩ := e
    refine (sortNil_any w).mono fun e w' ⟨he, hw⟩ => ⟨he, by rw [hw]; exact Below.refl _ _, [], List.Perm.refl _, fun i j _ hj => by simp at hj, ?_⟩
    exact ⟨none, 0, rfl, by simp, by omega, by simp, fun h => by simp at h⟩
  · cases e
    have hlt := (Array.getElem?_eq_some_iff.1 hw).1
    have hcon := AnyQ.slices_SortFunc Tryz.sortD 2 isAggD sizeOfD Diag.cells diag_len diag_one cmpD swoD 80 #[] g 0 cap l.toArray w egD (cmpLaysD g 0 _ w) (holds_of_own hh) hlt (by simp; omega)
    change Calls Tryz.prog 79 _ _ _ at hcon
    refine hcon.mono ?_
    rintro e w' ⟨he, d', n, os, hp, hs, rfl⟩
    have hsz : d'.size = l.length := by simpa using hp.1
    refine ⟨he, sorted_below hg hB, d'.toList, ?_, ?_, ?_⟩
    · have := hp.2.2
      rw [← hp.1] at this
      simp at this
      have e2 : l.toArray.extract 0 d'.size = l.toArray := by rw [hp.1]; simp
      simpa [hsz] using this
    · intro i j hij hj
      have hj' : j < d'.size := by simpa using hj
      have := hs i j (Nat.zero_le _) hij (by simpa [hsz] using hj')
      rw [ltOf_cmpD, getElem!_pos d' j hj', getElem!_pos d' i (by omega)] at this
      simpa [List.getD, hj', show i < d'.size by omega] using this
    · have hH : HoldsK Diag.cells 2 (sortWorldK Diag.cells 2 w g 0 n d' os) g 0 d' := by
        refine holdsK_grow _ _ _ _ _ _ _ ?_ (holdsK_putRowK _ _ _ _ _ l.toArray d' (holdsK_ahead _ _ _ _ _ _ _ (holds_of_own hh)) (by simpa using hp.1))
        simp [putRowK, putRow, mapBlock, ahead]; exact hlt
      have := flat_of_holds (cap := cap) hH ?_ (by omega) (by omega) hc2
      · rw [hsz] at this; exact this
      · simp [sortWorldK, grow, putRowK, putRow, mapBlock, ahead]; omega

set_option maxHeartbeats 1000000 in
theorem All_any {K : CkK} {w : World} {b : Nat} {s : CkS} (h : Chk K w b s) (hl : s.out.length ≤ 1000000) :
    Calls Tryz.prog 39 #[.pointer (some ⟨b, 7, none⟩)] w fun e w' => ∃ v l, e = .returned v ∧ l.Perm s.out ∧ Sorted l ∧ DiagsAt w'.heap.size w' v l ∧ Below w.heap.size w w' := by
  obtain ⟨vl, vs, hk⟩ := h.ck
  obtain ⟨va, vb, q1, q2, q3, q4, _⟩ := hk.ex
  obtain ⟨oa, cap, rfl, _, _⟩ := q3.slice
  have c7 := hk.cell (o := 7) q1
  have hD := q3.flat diag_len (by omega)
  go_enter Tryz.func39, Tryz.ntmps39
  go_wp2_with (first
    | (go_at_call 78; refine (Clone_any _ oa cap s.out w hD (Nat.le_refl _)).mono ?_; rintro e w1 ⟨v, rfl, hO, hB1⟩)
    | (go_at_call 79; refine (sortD_any hO (by omega) hB1.size).mono ?_; rintro e w2 ⟨rfl, hB2, l, hp, hs, hd⟩))
  go_ret
  exact ⟨_, l, rfl, hp, hs, hd, hB1.trans hB2⟩
end Go.Proofs.YtkfdnlfkomhmfaaGreatDoor
