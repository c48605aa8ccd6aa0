/- check.named, check.Writes: sets of names, filled in a range over a function. maps.Keys at a map keyed by int, slices.Sorted at what it hands back: the shelf's contracts. check.indices: the sorted indices of the names that are declared with one of the kinds. -/
import Derived.Test.YtkfdnlfkomhmfaaGreatDoorExprs
import Derived.Test.YtkfdnlfkomhmfaaGreatDoorStr
import Derived.Test.YtkfdnlfkomhmfaaGreatDoorBlk
import Derived.Maps.OwnIn
import Derived.Maps.Ext
import Derived.Maps.OwnSet
import Derived.Sort.KeysCollected
import Derived.Test.YtkfdnlfkomhmfaaGreatDoorLays2
import Derived.Test.YtkfdnlfkomhmfaaGreatDoorRuse2
import Derived.Test.YtkfdnlfkomhmfaaGreatDoorLook
import Derived.Maps.RangeWalk
namespace Go.Proofs.YtkfdnlfkomhmfaaGreatDoor
open Go.RowKit Go.Shelf
set_option linter.unusedVariables false
set_option linter.unusedSimpArgs false

abbrev KS (s : ByteArray) : Lit := .string s.data.toList
theorem KS_inj {s s' : ByteArray} (h : KS s = KS s') : s = s' := by
  have : s.data.toList = s'.data.toList := by simpa [KS] using h
  exact ByteArray.ext (Array.toList_inj.1 this)
theorem lawS : Go.Maps.Keyed Tryz.prog 9 := Go.Maps.string_keyed Tryz.underlying9
theorem keyS {s : ByteArray} (h : Str s) : keyOf Tryz.prog 9 (.string s) = some (KS s) := by
  have : s.size ≤ maxLen := Nat.le_trans h (by decide)
  simp [keyOf, mapKey, Tryz.underlying9, this]

abbrev MapD (w : World) (b n : Nat) (D : DataW Unit) : Prop := w.ownsMap Tryz.prog 9 (plainElem Tryz.prog 4) b n D
theorem ownsMap_later {H : Type} {P : Program} {k : TypeId} {R : Value → Option (DataW H × List MemPlace)} {w w' : World} {b n : Nat} {D : DataW H} (h : w.ownsMap P k R b n D) (hb : Below w.heap.size w w') : w'.ownsMap P k R b n D := by
  have hlt := h.lt
  obtain ⟨es, clock, h1, F, hs, hD⟩ := h
  exact ⟨es, clock, (hb.block b hlt).trans h1, F, hs, hD⟩
/-- block b is a set of strings: those of which F holds -/
def SetS (w : World) (b n : Nat) (F : ByteArray → Prop) : Prop := ∃ D, MapD w b n D ∧ ∀ s, Maps.has D (KS s) = true ↔ F s
theorem SetS.lt {w : World} {b n : Nat} {F : ByteArray → Prop} (h : SetS w b n F) : b < w.heap.size := by obtain ⟨D, h, _⟩ := h; exact h.lt
theorem SetS.later {w w' : World} {b n : Nat} {F : ByteArray → Prop} (h : SetS w b n F) (hb : Below w.heap.size w w') : SetS w' b n F := by
  obtain ⟨D, h, hF⟩ := h; exact ⟨D, ownsMap_later h hb, hF⟩
theorem SetS.mono {w : World} {b n n' : Nat} {F : ByteArray → Prop} (h : SetS w b n F) (hn : n ≤ n') : SetS w b n' F := by
  obtain ⟨D, h, hF⟩ := h; exact ⟨D, h.mono hn, hF⟩
theorem SetS.iff {w : World} {b n : Nat} {F G : ByteArray → Prop} (h : SetS w b n F) (hn : ∀ s, F s ↔ G s) : SetS w b n G := by
  obtain ⟨D, h, hF⟩ := h; exact ⟨D, h, fun s => (hF s).trans (hn s)⟩
theorem SetS.made (w : World) : SetS (w.alloc (.map #[] 0)) w.heap.size 0 (fun _ => False) :=
  ⟨.map [], World.ownsMap_made _ _ _ _, fun s => by simp [Maps.has]⟩
theorem has_put {D : DataW Unit} (hm : Maps.IsMap D) (s s' : ByteArray) (d : DataW Unit) : Maps.has (D.put (KS s) d) (KS s') = true ↔ Maps.has D (KS s') = true ∨ s = s' := by
  by_cases h : s = s'
  · subst h; rw [Maps.has_put_same (k := KS s) hm trivial]; simp
  · rw [Maps.has_put_other (fun e => h (KS_inj e).symm)]; simp [h]

attribute [local go_sem] Oper.semAt_some
set_option maxRecDepth 100000 in
set_option maxHeartbeats 4000000 in
theorem named_any (l : List Stmt) (ks : List Int) (v kv : Value) (N N' : Nat) (w : World) (hl : StmtsAt N w v l) (hk : IntsAt N' w kv ks) (hN : N ≤ w.heap.size) (hN' : N' ≤ w.heap.size) (hn : (exprsOf l).length ≤ 4000000) (hst : ∀ x ∈ exprsOf l, Str x.name) :
    Calls Tryz.prog 53 #[v, kv] w fun e w' => (∃ b, e = .returned (.map (some b)) ∧ SetS w' b 4000000 (fun s => ∃ x ∈ exprsOf l, x.kind ∈ ks ∧ x.name = s)) ∧ Below w.heap.size w w' := by
  obtain ⟨oa, cap, rfl, _, _, _⟩ := hl.slice
  obtain ⟨ok, ck, rfl, _, _, _⟩ := SliceAt.slice hk
  have hmm := @run_makeMap Tryz.prog
  refine (callsIn_wide (n := 6)).1 ?_
  refine callsIn_of_wp_marks Tryz.func53 rfl trivial ?_ rfl
  simp only [Tryz.ntmps53, List.size_toArray, List.length_cons, List.length_nil, Nat.reduceAdd, Nat.reduceSub, Array.replicate_succ, Array.replicate_zero, List.push_toArray, List.append_toArray, List.nil_append, List.cons_append]
  gi_wp2
  have hB0 : Below w.heap.size w (((w.alloc (.cells #[.slice ok ks.length ck] 56)).alloc (.map #[] 0)).alloc (.cells #[.map (some (w.heap.size + 1))] 100)) := (((Below.refl _ w).alloc (Nat.le_refl _) _).alloc (by simp) _).alloc (by simp; omega) _
  have hz0 : (((w.alloc (.cells #[.slice ok ks.length ck] 56)).alloc (.map #[] 0)).alloc (.cells #[.map (some (w.heap.size + 1))] 100)).heap.size = w.heap.size + 3 := by simp
  have hkb : (((w.alloc (.cells #[.slice ok ks.length ck] 56)).alloc (.map #[] 0)).alloc (.cells #[.map (some (w.heap.size + 1))] 100)).heap[w.heap.size]? = some (.cells #[.slice ok ks.length ck] 56) := (Below.heap_alloc _ _ _ (by simp; omega)).trans ((Below.heap_alloc _ _ _ (by simp)).trans (World.alloc_heap_new w _))
  have hmb : SetS (((w.alloc (.cells #[.slice ok ks.length ck] 56)).alloc (.map #[] 0)).alloc (.cells #[.map (some (w.heap.size + 1))] 100)) (w.heap.size + 1) 0 (fun _ => False) := by
    have := SetS.made (w.alloc (.cells #[.slice ok ks.length ck] 56))
    rw [World.size_alloc] at this
    exact this.later ((Below.refl _ _).alloc (Nat.le_refl _) _)
  have hob : (((w.alloc (.cells #[.slice ok ks.length ck] 56)).alloc (.map #[] 0)).alloc (.cells #[.map (some (w.heap.size + 1))] 100)).heap[w.heap.size + 2]? = some (.cells #[.map (some (w.heap.size + 1))] 100) := by
    have := World.alloc_heap_new ((w.alloc (.cells #[.slice ok ks.length ck] 56)).alloc (.map #[] 0)) (.cells #[.map (some (w.heap.size + 1))] 100)
    simpa using this
  generalize (((w.alloc (.cells #[.slice ok ks.length ck] 56)).alloc (.map #[] 0)).alloc (.cells #[.map (some (w.heap.size + 1))] 100)) = W0 at *
  refine ⟨trivial, (Exprs_in _ _ _ _ _).mono ?_⟩
  rintro e w2 ⟨rfl, rfl⟩
  have hB2 : Below W0.heap.size W0 (W0.alloc (.cells #[.slice oa l.length cap] 42)) := (Below.refl _ W0).alloc (Nat.le_refl _) _
  have hlb := World.alloc_heap_new W0 (.cells #[.slice oa l.length cap] 42)
  have hz2 : (W0.alloc (.cells #[.slice oa l.length cap] 42)).heap.size = w.heap.size + 4 := by simp [hz0]
  rw [hz0] at hlb ⊢
  generalize W0.alloc (.cells #[.slice oa l.length cap] 42) = w2 at *
  have hkb2 := (hB2.block _ (by omega)).trans hkb
  have hob2 := (hB2.block _ (by omega)).trans hob
  have hmb2 := hmb.later hB2
  have hBw2 := hB0.trans (hB2.mono (by omega))
  gi_wp2
  refine wpIn_range (gf := 136) (lb := #[.pointer (some ⟨w.heap.size + 3, 0, none⟩)]) rfl (enters_of Tryz.func136 (by kernel_rfl) rfl)
    (iterExprs N (w.heap.size + 3) (.slice oa l.length cap) l) ?ok (by omega) (fun _ _ _ h => by obtain ⟨_, _, _, rfl, _⟩ := h; rfl) (fun A B x args h hAB => by obtain ⟨_, _, _, rfl, h1, h2⟩ := h; exact ⟨_, _, _, rfl, h1.lift hAB, h2⟩)
    (· = w.heap.size + 1) (fun k h => ⟨by omega, by omega, by omega⟩) (fun k h => by omega) (fun pre W' => SetS W' (w.heap.size + 1) pre.length (fun s => ∃ x ∈ pre, x.kind ∈ ks ∧ x.name = s)) ?hI (hmb2.iff fun s => by simp)
    (fun x args a₁ W' => ∃ Bx ox nx cx, args = #[.agg #[.int .i64 x.kind, .string x.name, .int .i16 x.value, .int .i64 x.op, .slice ox nx cx, .int .i64 x.pos]] ∧
      W'.heap[Bx]? = some (.cells #[.int .i64 x.kind, .string x.name, .int .i16 x.value, .int .i64 x.op, .slice ox nx cx, .int .i64 x.pos] 40) ∧ a₁ = { tmps := #[.slice oa l.length cap, .slice ok ks.length ck, undef, .pointer (some ⟨w.heap.size, 0, none⟩), .map none, .pointer (some ⟨w.heap.size + 1 + 1, 0, none⟩), .pointer (some ⟨Bx, 0, none⟩), .map (some (w.heap.size + 1)), .slice oa l.length cap, .func (.func 136) #[] #[.pointer (some ⟨w.heap.size + 3, 0, none⟩)], .agg #[.int .i64 x.kind, .string x.name, .int .i16 x.value, .int .i64 x.op, .slice ox nx cx, .int .i64 x.pos], undef, undef, undef, undef, undef, undef, undef, undef], defers := [] }) ?hAx ?assign ?body ?done
  case ok =>
    intro W1 hB1
    refine ⟨?_, hl.lift ((hBw2.mono hN).trans (hB1.mono (by omega)))⟩
    have := (hB1.block (w.heap.size + 3) (by omega)).trans hlb
    simp [World.cell?, this]
  case hI =>
    rintro pre A B h1 hAB
    have hlt := h1.lt
    obtain ⟨D, h2, h3⟩ := h1
    obtain ⟨es, clock, hb, F, hs, hD⟩ := h2
    exact ⟨D, ⟨es, clock, (hAB.block _ (by omega)).trans hb, F, hs, hD⟩, h3⟩
  case hAx =>
    rintro x args a₁ A l' r o ⟨Bx, ox, nx, cx, h1, h2, h3⟩ hl
    exact ⟨Bx, ox, nx, cx, h1, (World.putObj_heap_other (fun e => by subst e; rw [h2] at hl; cases hl)).trans h2, h3⟩
  case assign =>
    rintro l' m' pre x args W1 K hj htw ⟨ox, nx, cx, rfl, hxa, hxw⟩ hpre hK
    gi_wp2
    exact hK _ _ ⟨W1.heap.size, ox, nx, cx, rfl, World.alloc_heap_new W1 _, rfl⟩ ((Below.refl _ _).alloc (Nat.le_refl _) _)
  case body =>
    rintro l' m' pre x args a₁ W1 hj htw henc ⟨Bx, ox, nx, cx, rfl, hBx, rfl⟩ hpre hlt
    have hkb1 := (htw.block w.heap.size (by omega) (by omega)).trans hkb2
    have hob1 := (htw.block (w.heap.size + 2) (by omega) (by omega)).trans hob2
    have ck0 : W1.cell? ⟨w.heap.size, 0, none⟩ = some (.slice ok ks.length ck) := by simp [World.cell?, hkb1]
    have co0 : W1.cell? ⟨w.heap.size + 1 + 1, 0, none⟩ = some (.map (some (w.heap.size + 1))) := by simp [World.cell?, hob1]
    have cx0 : W1.cell? ⟨Bx, 0, none⟩ = some (.int .i64 x.kind) := by simp [World.cell?, hBx]
    have cx1 : W1.cell? ⟨Bx, 1, none⟩ = some (.string x.name) := by simp [World.cell?, hBx]
    have hBw1 : Below w.heap.size w W1 := hBw2.trans (htw.below (by omega) (fun k h => by omega))
    have hk1 := SliceAt.lift hk (hBw1.mono hN')
    have hmem : x ∈ exprsOf l := hpre.subset (by simp)
    have hsx := keyS (hst x hmem)
    have hpl : pre.length < maxLen := by
      have := hpre.length_le
      simp at this
      unfold maxLen; omega
    obtain ⟨D, hown, hF⟩ := hj
    have HF := Lib.hid hF
    clear hF
    have HC := Lib.hid (ContainsI_any N' ok ks.length ck ks x.kind W1 hk1 rfl)
    by_cases hin : x.kind ∈ ks
    · rw [decide_eq_true hin] at HC
      have HIN := Lib.hid hin
      clear hin
      gi_wp2
      refine ⟨trivial, fun h => (by cases h), (CallsIn.inRound l' (callsIn_wide.2 HC.out)).mono ?_⟩
      rintro e W2 ⟨rfl, rfl⟩
      gi_wp2_with (gi_at_mapUpdate; refine wpListIn_mapUpdate_own _ rfl _ _ _ 100 rfl 9 4 lawS Tryz.underlying100 _ (w.heap.size + 1) pre.length D rfl hown hpl _ _ (KS x.name) rfl rfl hsx (.lit (.bool true)) [] (plainElem_bool Tryz.underlying4 true) ?_; intro w3 hown3 hg3)
      have hS3 : SetS w3 (w.heap.size + 1) (pre.length + 1) (fun s => (∃ x ∈ pre, x.kind ∈ ks ∧ x.name = s) ∨ x.name = s) := ⟨_, hown3, fun s => by rw [has_put hown.isMap, HF.out s]⟩
      refine ⟨?_, (Turns.refl _ _).grown hg3 (fun k e => .inl (by cases e; rfl))⟩
      have hS4 := hS3.iff (G := fun s => ∃ y ∈ pre ++ [x], y.kind ∈ ks ∧ y.name = s) fun s => by
        simp only [List.mem_append, List.mem_singleton]
        constructor
        · rintro (⟨y, hy, h1, h2⟩ | h2)
          · exact ⟨y, .inl hy, h1, h2⟩
          · exact ⟨x, .inr rfl, HIN.out, h2⟩
        · rintro ⟨y, hy | rfl, h1, h2⟩
          · exact .inl ⟨y, hy, h1, h2⟩
          · exact .inr h2
      simpa using hS4
    · rw [decide_eq_false hin] at HC
      have HIN := Lib.hid hin
      clear hin
      gi_wp2
      refine ⟨trivial, fun h => (by cases h), (CallsIn.inRound l' (callsIn_wide.2 HC.out)).mono ?_⟩
      rintro e W2 ⟨rfl, rfl⟩
      gi_wp2
      have hS4 : SetS W2 (w.heap.size + 1) (pre ++ [x]).length (fun s => ∃ y ∈ pre ++ [x], y.kind ∈ ks ∧ y.name = s) := ⟨D, hown.mono (by simp), fun s => by
        rw [HF.out s]
        simp only [List.mem_append, List.mem_singleton]
        constructor
        · rintro ⟨y, hy, h1, h2⟩
          exact ⟨y, .inl hy, h1, h2⟩
        · rintro ⟨y, hy | rfl, h1, h2⟩
          · exact ⟨y, hy, h1, h2⟩
          · exact absurd h1 HIN.out⟩
      first | exact ⟨by simpa using hS4, Turns.refl _ _⟩ | simpa using hS4
  case done =>
    rintro D W1 hj htw hK hD
    have hob1 := (htw.block (w.heap.size + 2) (by omega) (by omega)).trans hob2
    have co0 : W1.cell? ⟨w.heap.size + 1 + 1, 0, none⟩ = some (.map (some (w.heap.size + 1))) := by simp [World.cell?, hob1]
    have hBw1 : Below w.heap.size w W1 := hBw2.trans (htw.below (by omega) (fun k h => by omega))
    gi_wp2
    refine ⟨by simp, .inl ⟨_, _, rfl, run_takeDeferred hK, ?_⟩⟩
    have hB9 : Below w2.heap.size W1 (W1.putObj D (.deferred none)) := below_putObj (by omega) _
    refine ⟨_, results_tmp rfl _ _ _, ⟨_, rfl, ?_⟩, hBw1.trans (hB9.mono (by omega))⟩
    obtain ⟨D', ⟨es, clock, hb, F, hs, hD'⟩, h3⟩ := hj
    exact ⟨D', ⟨es, clock, (hB9.block _ (by omega)).trans hb, F, Nat.le_trans hs hn, hD'⟩, h3⟩
end Go.Proofs.YtkfdnlfkomhmfaaGreatDoor

namespace Go.Proofs.YtkfdnlfkomhmfaaGreatDoor
open Go.RowKit Go.Maps Go.Sort Go.Shelf
set_option linter.unusedVariables false

theorem sortsI (m : Nat) : AnyZI.SortsIn Tryz.prog Tryz.sortedI_ren Fence.wide m :=
  ⟨fun blk off cap ss W hH hblk hsz => callsIn_wide.2 (AnyM.slices_Sort_int Tryz.sortI blk off cap ss W hH hblk hsz),
   fun p cap W => callsIn_wide.2 (AnyM.slices_Sort_int_none Tryz.sortI p cap W)⟩
theorem keys_any (mb : Option Nat) (W : World) : Calls Tryz.prog 100 #[.map mb] W fun e w' => e = .returned (.func (.func 135) #[] #[.pointer (some ⟨W.heap.size, 0, none⟩)]) ∧ w' = W.alloc (.cells #[.map mb] 140) :=
  (callsIn_wide (n := 5)).1 (AnyZI.keys_in Tryz.keysI Fence.wide 5 trivial rfl mb W)

set_option maxHeartbeats 1000000 in
theorem sorted_any {H : Type} (b nn : Nat) (D0 : DataW H) (R : Value → Option (DataW H × List MemPlace)) (w : World) (hown : w.ownsMap Tryz.prog 3 R b nn D0) (hmax : Maps.size D0 ≤ 4000000) :
    Calls Tryz.prog 99 #[.func (.func 135) #[] #[.pointer (some ⟨w.heap.size, 0, none⟩)]] (w.alloc (.cells #[.map (some b)] 140)) fun e w' => ∃ (v : Value) (ss : List Int), e = .returned v ∧ ss.Perm (intKeys D0) ∧
      w'.ownsRow (w.alloc (.cells #[.map (some b)] 140)).heap.size 3 1 v ss.length ((ss.mergeSort (fun x y => decide (x ≤ y))).map encZ) ∧ (v = .slice none 0 0 ↔ ss = []) ∧ Below (w.alloc (.cells #[.map (some b)] 140)).heap.size (w.alloc (.cells #[.map (some b)] 140)) w' := by
  have hbl := hown.lt
  have hseq : SeqGives Fence.wide 2 Tryz.prog 135 #[.pointer (some ⟨w.heap.size, 0, none⟩)] encZ (fun ss => ss.Perm (intKeys D0)) (Maps.size D0) (w.alloc (.cells #[.map (some b)] 140)) :=
    AnyZI.keys_gives (ρ := Tryz.keysI_ren) { Tryz.keysI with } Fence.wide _ trivial rfl (by omega) w.heap.size b nn D0 _ (by simp) (by simp) (by
      obtain ⟨es, clock, hb, Ft, hs, hD⟩ := hown
      exact ⟨es, clock, (Below.heap_alloc _ _ b hbl).trans hb, Ft, hs, hD⟩)
  exact (callsIn_wide (n := 5)).1 (AnyZI.sorted_in Tryz.sortedI Fence.wide 5 trivial trivial trivial trivial rfl (by omega) (sortsI _) (enters_of Tryz.func134 (by kernel_rfl) rfl) 135 #[.pointer (some ⟨w.heap.size, 0, none⟩)] trivial (enters_of Tryz.func135 (by kernel_rfl) rfl) _ _ (by unfold maxLen; omega) (by omega) _ hseq)

theorem lawI : Go.Maps.Keyed Tryz.prog 3 := Go.Maps.int_keyed Tryz.underlying3
/-- the keys of a map by int, sorted -/
theorem sorted_keys {D0 : DataW Unit} {w : World} {b nn : Nat} {R : Value → Option (DataW Unit × List MemPlace)} (hown : w.ownsMap Tryz.prog 3 R b nn D0) {ss : List Int} (hp : ss.Perm (intKeys D0)) :
    Asc (ss.mergeSort fun x y => decide (x ≤ y)) ∧ ∀ i, i ∈ ss.mergeSort (fun x y => decide (x ≤ y)) ↔ Maps.has D0 (.int .i64 i) = true := by
  have hkeys := hown.entries lawI
  obtain ⟨es, rfl, hpw, hkl⟩ := hkeys
  have hki : ∀ p ∈ es, ∃ x, p.1 = .int .i64 x := by
    obtain ⟨es', e, h⟩ := World.ownsMap.keysOf hown
    cases e
    intro p hp'
    obtain ⟨v, hv⟩ := h p hp'
    obtain ⟨x, _, hx, _⟩ := Maps.keyOf_int_inv Tryz.underlying3 hv
    exact ⟨x, hx⟩
  have hnd : (intKeys (.map es : DataW Unit)).Nodup := by
    show (es.map fun p => _root_.Go.intOf p.1).Nodup
    refine List.pairwise_map.2 (hpw.imp_of_mem fun {p q} hp' hq' hne e => hne ?_)
    obtain ⟨a, ha⟩ := hki p hp'
    obtain ⟨b, hb⟩ := hki q hq'
    rw [ha, hb] at e ⊢
    exact congrArg _ e
  have hm : ∀ x, x ∈ intKeys (.map es : DataW Unit) ↔ Maps.has (.map es) (.int .i64 x) = true := by
    intro x
    rw [has_eq, List.any_eq_true]
    show x ∈ es.map (fun p => _root_.Go.intOf p.1) ↔ _
    rw [List.mem_map]
    constructor
    · rintro ⟨p, hp', rfl⟩
      obtain ⟨a, ha⟩ := hki p hp'
      exact ⟨p, hp', by rw [ha]; simp [Lit.sameKey, _root_.Go.intOf]⟩
    · rintro ⟨p, hp', hs⟩
      obtain ⟨a, ha⟩ := hki p hp'
      rw [ha] at hs
      exact ⟨p, hp', by rw [ha]; simpa [Lit.sameKey, _root_.Go.intOf] using hs⟩
  have tr : ∀ a b c : Int, decide (a ≤ b) = true → decide (b ≤ c) = true → decide (a ≤ c) = true := fun a b c h1 h2 => by simp only [decide_eq_true_eq] at *; omega
  have tot : ∀ a b : Int, (decide (a ≤ b) || decide (b ≤ a)) = true := fun a b => by simp only [Bool.or_eq_true, decide_eq_true_eq]; omega
  have hperm := List.mergeSort_perm ss (fun x y => decide (x ≤ y))
  have hsd := List.pairwise_mergeSort tr tot ss
  have hnd2 : (ss.mergeSort fun x y => decide (x ≤ y)).Nodup := (hperm.trans hp).nodup_iff.2 hnd
  refine ⟨?_, fun i => ((hperm.trans hp).mem_iff).trans (hm i)⟩
  refine List.Pairwise.imp₂ (fun a b h1 h2 => ?_) hsd hnd2
  have := of_decide_eq_true h1
  omega
end Go.Proofs.YtkfdnlfkomhmfaaGreatDoor

namespace Go.Proofs.YtkfdnlfkomhmfaaGreatDoor
open Go.RowKit Go.Maps
set_option linter.unusedVariables false
set_option linter.unusedSimpArgs false

def idxF (ds : List Decl) (F : ByteArray → Prop) (ks : List Int) (i : Int) : Prop := ∃ s, F s ∧ ∃ d, ds.find? (fun d => decide (d.name = s)) = some d ∧ d.kind ∈ ks ∧ i = d.index
theorem row_of_keys {B B' : Nat} {w : World} {v : Value} {ss : List Int} (h : w.ownsRow B 3 1 v ss.length ((ss.mergeSort (fun x y => decide (x ≤ y))).map encZ)) (hb : B' ≤ B) : Row B' w v (ss.mergeSort (fun x y => decide (x ≤ y))) := by
  refine OwnAt.base (B := B) ?_ hb
  have e1 : (ss.mergeSort (fun x y => decide (x ≤ y))).length = ss.length := List.length_mergeSort ss
  have e2 : (ss.mergeSort (fun x y => decide (x ≤ y))).flatMap intCells = (ss.mergeSort (fun x y => decide (x ≤ y))).map encZ := by
    generalize ss.mergeSort (fun x y => decide (x ≤ y)) = l
    induction l with
    | nil => rfl
    | cons x l ih => simp [intCells, ih]
  unfold OwnAt
  rw [e1, e2]
  exact h
theorem keyS_inv {s : ByteArray} {kl : Lit} (h : keyOf Tryz.prog 9 (.string s) = some kl) : kl = KS s := by
  obtain ⟨x, hx, hk, _⟩ := Maps.keyOf_str Tryz.underlying9 h
  have : s = ⟨x.toArray⟩ := by simpa [encStr] using hx
  subst this
  simpa [KS] using hk
theorem wf_idx {i : Int} (h : 0 ≤ i ∧ i < 1048576) : (Lit.int .i64 i).wf = true := by
  obtain ⟨h1, h2⟩ := h
  have a : (IntKind.i64).min = -9223372036854775808 := by decide
  have b : (IntKind.i64).max = 9223372036854775807 := by decide
  simp only [Lit.wf, a, b, Bool.and_eq_true, decide_eq_true_eq]
  omega
theorem has_putI {D : DataW Unit} (hm : Maps.IsMap D) (i j : Int) (d : DataW Unit) : Maps.has (D.put (.int .i64 i) d) (.int .i64 j) = true ↔ Maps.has D (.int .i64 j) = true ∨ i = j := by
  by_cases h : i = j
  · subst h; rw [Maps.has_put_same (k := .int .i64 i) hm trivial]; simp
  · rw [Maps.has_put_other (by simp; omega)]; simp [h]

theorem wpList_next_sb (w : World) {ops : Array Oper} {rest : List Oper} {o : Oper} {a : Act} {Q : Exit → Act → World → Prop}
    (hg : o.guard = none) (it : Operand) (hop : o.op = Op.next it false) (b r n : Nat) (D : DataW Unit) (left : Lit → Bool) (cnt : Nat) (hit : a.eval it = .pointer (some ⟨r, 0, none⟩)) (h : w.ranges Tryz.prog 9 (plainElem Tryz.prog 4) b r n D left cnt)
    (hDone : cnt = 0 → (∀ kl, left kl = false) → wpList Tryz.prog ops Q rest (a.put o.dst (.tuple #[.bool false])) w)
    (hMore : ∀ (s : ByteArray) (c : Value) (w' : World) (cnt' : Nat), left (KS s) = true → Maps.has D (KS s) = true → w'.ranges Tryz.prog 9 (plainElem Tryz.prog 4) b r n D (fun z => left z && !z.sameKey (KS s)) cnt' → cnt' < cnt →
      w.grownBy w' (some r) → w'.heap.size = w.heap.size → (Instr.entry (.pointer (some ⟨r, 0, none⟩))).run Tryz.prog w' = .ok (.tuple #[.string s, c]) w' → wpList Tryz.prog ops Q rest (a.put o.dst (.tuple #[.bool true, .string s, c])) w') :
    wpList Tryz.prog ops Q (o :: rest) a w :=
  wpList_next_ranges w hg it hop 9 lawS (plainElem Tryz.prog 4) Value.string Value.bool
    (fun key kl h => by obtain ⟨x, hx, _⟩ := Maps.keyOf_str Tryz.underlying9 h; exact ⟨_, hx⟩)
    (fun v y h => by
      cases v <;> simp [plainElem, Tryz.underlying4] at h
      exact ⟨_, rfl⟩)
    b r n D left cnt hit h hDone (fun s c kl y w' cnt' hkey hlk hv hat hrg hlt hgr hsz hen => by
      obtain rfl := keyS_inv hkey
      exact hMore s (.bool c) w' cnt' hlk (Maps.has_true_of_atKey hat) hrg hlt hgr hsz hen)

set_option maxRecDepth 100000 in
set_option maxHeartbeats 8000000 in
theorem indices_any (p : Prog) (hds : Idx (namesOf p)) (F : ByteArray → Prop) (nb : Nat) (ks : List Int) (kv v0 v1 v2 v3 v4 v5 : Value) (N N' : Nat) (w : World) (hp : ProgAt N w v0 v1 v2 v3 v4 v5 p) (hN : N ≤ w.heap.size)
    (hS : SetS w nb 4000000 F) (hk : IntsAt N' w kv ks) (hN' : N' ≤ w.heap.size) :
    Calls Tryz.prog 52 #[.agg #[v0, v1, v2, v3, v4, v5], .map (some nb), kv] w fun e w' => (∃ v l, e = .returned v ∧ Row w.heap.size w' v l ∧ Asc l ∧ ∀ i, i ∈ l ↔ idxF (namesOf p) F ks i) ∧ Below w.heap.size w w' := by
  obtain ⟨o0, q0, rfl, _, _, n0⟩ := SliceAt.slice hp.consts
  obtain ⟨o1, q1, rfl, _, _, n1⟩ := SliceAt.slice hp.globals
  obtain ⟨o2, q2, rfl, _, _, n2⟩ := SliceAt.slice hp.sensors
  obtain ⟨o3, q3, rfl, _, _, n3⟩ := SliceAt.slice hp.outputs
  obtain ⟨o4, q4, rfl, _, _, n4⟩ := SliceAt.slice hp.channels
  obtain ⟨o5, q5, rfl, _, _, n5⟩ := hp.tasks.slice
  obtain ⟨ok, ck, rfl, _, _, _⟩ := SliceAt.slice hk
  have hz : ∀ w, (zeroValue 86).run Tryz.prog w = .ok (.agg #[.string ⟨#[]⟩, .int .i64 0, .int .i64 0, .int .i64 0]) w := fun w => by
    obtain ⟨i, hi, hz, _⟩ := info_parts infoDC
    simp [zeroValue, typeInfo, hi, hz]
  have hmm := @run_makeMap Tryz.prog
  obtain ⟨D, hown, hDF⟩ := hS
  have hsz := hown.size_le
  have hnl := hown.lt
  have HDF := Lib.hid hDF
  have HDS := Lib.hid hds
  clear hDF hds
  go_enter Tryz.func52, Tryz.ntmps52
  go_upto_region 1 with fail
  have hA := Blk.new w #[.slice o0 p.consts.length q0, .slice o1 p.globals.length q1, .slice o2 p.sensors.length q2, .slice o3 p.outputs.length q3, .slice o4 p.channels.length q4, .slice o5 p.tasks.length q5] 28
  have hWB := (Below.refl w.heap.size w).alloc (Nat.le_refl _) (.cells #[.slice o0 p.consts.length q0, .slice o1 p.globals.length q1, .slice o2 p.sensors.length q2, .slice o3 p.outputs.length q3, .slice o4 p.channels.length q4, .slice o5 p.tasks.length q5] 28)
  generalize w.alloc (.cells #[.slice o0 p.consts.length q0, .slice o1 p.globals.length q1, .slice o2 p.sensors.length q2, .slice o3 p.outputs.length q3, .slice o4 p.channels.length q4, .slice o5 p.tasks.length q5] 28) = W at hA hWB ⊢
  have a0 := hA.cell 0 rfl
  have a1 := hA.cell 1 rfl
  have a2 := hA.cell 2 rfl
  have a3 := hA.cell 3 rfl
  have a4 := hA.cell 4 rfl
  have a5 := hA.cell 5 rfl
  have hp' := hp.lift (hWB.mono hN)
  have hNW := Nat.le_trans hN hWB.size
  go_upto_region 2 with (go_at_call 33; refine (table_any p _ _ _ _ _ _ N _ hp' hNW).mono ?_; rintro e w1 ⟨bt, rfl, hbt, hT, hB1⟩; rw [fill_table] at hT)
  have hBw1 := hWB.trans (hB1.mono hWB.size)
  have hown1 := ownsMap_later hown hBw1
  have e1 : (w1.alloc (.map #[] 0)).heap.size = w1.heap.size + 1 := by simp
  have hw1 := hBw1.size
  have hbtl := hT.lt
  go_wp2_with (first
    | (at_range; refine wpList_range_own _ rfl _ 100 rfl 9 4 lawS Tryz.underlying100 _ nb 4000000 _ rfl (hown1.alloc _) ?_; intro w0 hrg0 hg0 hs0)
    | go_in)
  go_frame
  rw [e1] at hrg0 hs0 ⊢
  have hg1 : w1.grownBy w0 none := (World.grownBy_alloc w1 (.map #[] 0) none).andThen hg0 (fun j hj => by cases hj)
  have hBw0 : Below w.heap.size w w0 := hBw1.grown hg1 hw1 (fun j hj => by cases hj)
  have hf0 : w0.ownsMap Tryz.prog 3 (plainElem (H := Unit) Tryz.prog 4) w1.heap.size 0 (.map []) := (World.ownsMap_made w1 _ _ _).kept hg0 (by simp)
  have hT0 : MapS w0 bt (tableF (namesOf p)) := hT.kept (hg1.block bt hbtl (by simp))
  have hN0 : N' ≤ w0.heap.size := Nat.le_trans hN' hBw0.size
  go_loopw [9] (fun _ wr => ∃ (left : Lit → Bool) (cnt : Nat) (Df : DataW Unit), wr.ranges Tryz.prog 9 (plainElem (H := Unit) Tryz.prog 4) nb (w1.heap.size + 1) 4000000 D left cnt ∧ cnt ≤ Maps.size D ∧
      wr.ownsMap Tryz.prog 3 (plainElem (H := Unit) Tryz.prog 4) w1.heap.size (Maps.size D - cnt) Df ∧ (∀ i, Maps.has Df (.int .i64 i) = true ↔ idxF (namesOf p) (fun s => Maps.has D (KS s) = true ∧ left (KS s) = false) ks i) ∧
      MapS wr bt (tableF (namesOf p)) ∧ Below w.heap.size w wr ∧ w1.heap.size + 2 ≤ wr.heap.size)
    (fun _ wr => wr.rangeLeft nb (w1.heap.size + 1))
  case atStart =>
    refine ⟨_, _, .map [], hrg0, Nat.le_refl _, hf0.mono (Nat.zero_le _), ?_, hT0, hBw0, by omega⟩
    intro i
    constructor
    · intro h; simp [Maps.has] at h
    · rintro ⟨s, ⟨h1, h2⟩, _⟩; rw [h1] at h2; cases h2
  case round =>
    obtain ⟨left, cnt, Df, hrg, hcs, hf, hDf, hTr, hBr, hzr⟩ := hrel
    rename World => wr
    have HDf := Lib.hid hDf
    clear hDf
    go_wp2_with (first
      | (at_next; refine wpList_next_sb _ rfl _ rfl nb (w1.heap.size + 1) 4000000 D left cnt rfl hrg ?_ ?_)
      | go_in)
    · intro hc0 hl0
      go_wp2_with (first
        | (go_at_call 100; refine (keys_any _ _).mono ?_; rintro e w5 ⟨rfl, rfl⟩)
        | (go_at_call 99; refine (sorted_any _ _ _ _ wr hf (Nat.le_trans hf.size_le (by omega))).mono ?_; rintro e w6 ⟨v, ss, rfl, hperm, hrow, _, hB6⟩))
      go_ret
      have hzz : w.heap.size ≤ wr.heap.size := hBr.size
      obtain ⟨hasc, hmem⟩ := sorted_keys hf hperm
      refine ⟨⟨_, ss.mergeSort (fun x y => decide (x ≤ y)), rfl, row_of_keys hrow (by simp; omega), hasc, fun i => ?_⟩, hBr.trans ((((Below.refl _ wr).alloc (Nat.le_refl _) _).trans (hB6.mono (by simp))).mono hzz)⟩
      rw [hmem i, HDf.out i]
      unfold idxF
      constructor
      · rintro ⟨s, ⟨h1, _⟩, h2⟩; exact ⟨s, (HDF.out s).1 h1, h2⟩
      · rintro ⟨s, h1, h2⟩; exact ⟨s, ⟨(HDF.out s).2 h1, hl0 _⟩, h2⟩
    · intro s c w2 cnt2 hlk hhas hrg2 hlt hg2 hs2 hen
      have hf2 := hf.kept hg2 (by simp)
      have hT2 : MapS w2 bt (tableF (namesOf p)) := hTr.kept (hg2.block bt (by omega) (by simp; omega))
      have hB2 : Below w.heap.size w w2 := hBr.grown hg2 hBr.size (fun j hj => by cases hj; omega)
      have hz2 : w1.heap.size + 2 ≤ w2.heap.size := by omega
      have hwle : wr.heap.size ≤ w2.heap.size := by omega
      clear hs2
      have HLK := Lib.hid hlk
      have HHA := Lib.hid hhas
      clear hlk hhas
      -- what the found map is to hold behind the round
      have hstep : ∀ i, idxF (namesOf p) (fun z => Maps.has D (KS z) = true ∧ (left (KS z) && !(KS z).sameKey (KS s)) = false) ks i ↔ idxF (namesOf p) (fun z => Maps.has D (KS z) = true ∧ left (KS z) = false) ks i ∨
          ∃ d, (namesOf p).find? (fun d => decide (d.name = s)) = some d ∧ d.kind ∈ ks ∧ i = d.index := by
        intro i
        unfold idxF
        constructor
        · rintro ⟨z, ⟨h1, h2⟩, h3⟩
          cases hl : left (KS z) with
          | false => exact .inl ⟨z, ⟨h1, hl⟩, h3⟩
          | true =>
            rw [hl] at h2
            have hzs : z = s := by
              by_cases e : KS z = KS s
              · exact KS_inj e
              · rw [Maps.sameKey_ne e] at h2; cases h2
            subst hzs
            exact .inr h3
        · rintro (⟨z, ⟨h1, h2⟩, h3⟩ | h3)
          · exact ⟨z, ⟨h1, by rw [h2]; rfl⟩, h3⟩
          · refine ⟨s, ⟨HHA.out, ?_⟩, h3⟩
            have : (KS s).sameKey (KS s) = true := by simp [KS, Lit.sameKey]
            rw [this]; simp
      have HST := Lib.hid hstep
      clear hstep
      cases hfd : (namesOf p).find? fun d => decide (d.name = s)
      case none =>
        have hTn : tableF (namesOf p) s = none := by simp [tableF, hfd]
        have HTN := Lib.hid hTn
        have HFD := Lib.hid hfd
        clear hTn hfd
        go_wp2_with (refine wpList_lookupS _ rfl _ _ 72 rfl 9 86 Tryz.underlying72 Tryz.underlying9 hz _ _ rfl hT2 _ rfl (.agg #[.string ⟨#[]⟩, .int .i64 0, .int .i64 0, .int .i64 0]) false (by rw [HTN.out]; rfl) (by rw [HTN.out]; rfl) ?_)
        go_roundw
        case rel =>
          refine ⟨_, cnt2, Df, hrg2.alloc _, by omega, (hf2.alloc _).mono (by omega), fun i => ?_, hT2.later ((Below.refl _ _).alloc (Nat.le_refl _) _), hB2.alloc hB2.size _, by simp; omega⟩
          rw [HDf.out i, HST.out i]
          exact ⟨.inl, fun h => h.elim id fun ⟨d, hd, _⟩ => by rw [HFD.out] at hd; cases hd⟩
        case measure => rw [(hrg2.alloc _).left_eq, hrg.left_eq]; exact hlt
      case some d =>
        have hTn : tableF (namesOf p) s = some (declV d) := by simp [tableF, hfd]
        have hidx := HDS.out d (List.mem_of_find?_eq_some hfd)
        have HTN := Lib.hid hTn
        have HFD := Lib.hid hfd
        have HIX := Lib.hid hidx
        clear hTn hfd hidx
        go_upto_region 7 with (refine wpList_lookupS _ rfl _ _ 72 rfl 9 86 Tryz.underlying72 Tryz.underlying9 hz _ _ rfl hT2 _ rfl (.agg #[.string d.name, .int .i64 d.kind, .int .i64 d.index, .int .i64 d.pos]) true (by rw [HTN.out]; rfl) (by rw [HTN.out]; rfl) ?_)
        have hb3 : Blk (w2.alloc (.cells #[.string d.name, .int .i64 d.kind, .int .i64 d.index, .int .i64 d.pos] 86)) w2.heap.size #[.string d.name, .int .i64 d.kind, .int .i64 d.index, .int .i64 d.pos] 86 := Blk.new w2 _ _
        have hB3 : Below w2.heap.size w2 (w2.alloc (.cells #[.string d.name, .int .i64 d.kind, .int .i64 d.index, .int .i64 d.pos] 86)) := (Below.refl _ _).alloc (Nat.le_refl _) _
        have hrg3 := hrg2.alloc (.cells #[.string d.name, .int .i64 d.kind, .int .i64 d.index, .int .i64 d.pos] 86)
        have hf3 := hf2.alloc (.cells #[.string d.name, .int .i64 d.kind, .int .i64 d.index, .int .i64 d.pos] 86)
        have hz3 : (w2.alloc (.cells #[.string d.name, .int .i64 d.kind, .int .i64 d.index, .int .i64 d.pos] 86)).heap.size = w2.heap.size + 1 := by simp
        generalize w2.alloc (.cells #[.string d.name, .int .i64 d.kind, .int .i64 d.index, .int .i64 d.pos] 86) = w3 at hb3 hB3 hrg3 hf3 hz3 ⊢
        have hBw3 := hB2.trans (hB3.mono hB2.size)
        have d1 := hb3.cell 1 rfl
        have d2 := hb3.cell 2 rfl
        have HC := Lib.hid (ContainsI_any N' ok ks.length ck ks d.kind w3 (SliceAt.lift hk (hBw3.mono hN')) rfl)
        have hT3 := hT2.later hB3
        by_cases hin : d.kind ∈ ks
        · rw [decide_eq_true hin] at HC
          have HIN := Lib.hid hin
          clear hin
          go_wp2_with (first
            | (go_at_call 98; refine HC.out.mono ?_; rintro e w4 ⟨rfl, rfl⟩)
            | (at_mapUpdate; refine wpList_mapUpdate_own _ rfl _ _ _ 140 rfl 3 4 lawI Tryz.underlying140 _ w1.heap.size (Maps.size D - cnt) Df rfl hf3 (by unfold maxLen; omega) _ _ (.int .i64 d.index) rfl rfl (keyOf_int_mk Tryz.underlying3 (wf_idx HIX.out)) (.lit (.bool true)) [] (plainElem_bool Tryz.underlying4 true) ?_; intro w5 hf5 hg5; go_frame)
            | go_in)
          have hrg5 := hrg3.kept hg5 (by simp; omega) (by simp)
          have hT5 := hT3.kept (hg5.block bt (by omega) (by simp; omega))
          go_roundw
          case rel =>
            refine ⟨_, cnt2, _, hrg5, by omega, hf5.mono (by omega), fun i => ?_, hT5, hBw3.grown hg5 hBw3.size (fun j hj => by cases hj; omega), by have := hg5.size; omega⟩
            rw [has_putI hf3.isMap, HDf.out i, HST.out i]
            constructor
            · rintro (h | h)
              · exact .inl h
              · exact .inr ⟨d, HFD.out, HIN.out, h.symm⟩
            · rintro (h | ⟨d', hd, _, h⟩)
              · exact .inl h
              · rw [HFD.out] at hd; cases hd; exact .inr h.symm
          case measure => rw [hrg5.left_eq, hrg.left_eq]; exact hlt
        · rw [decide_eq_false hin] at HC
          have HIN := Lib.hid hin
          clear hin
          go_wp2_with (go_at_call 98; refine HC.out.mono ?_; rintro e w4 ⟨rfl, rfl⟩)
          go_roundw
          case rel =>
            refine ⟨_, cnt2, Df, hrg3, by omega, hf3.mono (by omega), fun i => ?_, hT3, hBw3, by omega⟩
            rw [HDf.out i, HST.out i]
            exact ⟨.inl, fun h => h.elim id fun ⟨d', hd, hk', _⟩ => by rw [HFD.out] at hd; cases hd; exact absurd hk' HIN.out⟩
          case measure => rw [hrg3.left_eq, hrg.left_eq]; exact hlt
end Go.Proofs.YtkfdnlfkomhmfaaGreatDoor
