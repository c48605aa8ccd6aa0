/- The laws' examples hold. -/
import Derived.Test.YtkfdnlfkomhmfaaGreatDoorCheck2
import Derived.Test.YtkfdnlfkomhmfaaGreatDoorConstV
namespace Go.Proofs.YtkfdnlfkomhmfaaGreatDoor
open Go.RowKit
set_option linter.unusedVariables false
set_option linter.unusedSimpArgs false

def nameE (s : ByteArray) : Expr := ⟨2, s, 0, 0, [], 0⟩
theorem name_any (s : ByteArray) (w : World) : Calls Tryz.prog 31 #[.string s] w fun e w' => e = .returned (.agg #[.int .i64 2, .string s, .int .i16 0, .int .i64 0, .slice none 0 0, .int .i64 0]) ∧ Below w.heap.size w w' := by
  go_enter Tryz.func31, Tryz.ntmps31
  go_wp2_with fail
  exact bodyPost_ret (v := .agg #[.int .i64 2, .string s, .int .i16 0, .int .i64 0, .slice none 0 0, .int .i64 0]) (by simp [results, Tryz.results31, go_sem]) rfl ⟨rfl, (Below.refl _ _).alloc (Nat.le_refl _) _⟩

abbrev xN : ByteArray := ⟨#[78]⟩
abbrev xx : ByteArray := ⟨#[120]⟩
abbrev xy : ByteArray := ⟨#[121]⟩
abbrev xt : ByteArray := ⟨#[116]⟩
def exS : Stmt := ⟨2, xy, 0, [nameE xx], [], [], 29⟩
def exT : Task := ⟨xt, 5, 0, emp, emp, 0, [exS], 0⟩
def exP : Prog := ⟨[⟨xN, 3, 0⟩], [⟨xx, 0, 0, 0⟩], [], [], [], [exT]⟩
def exE : Expr := ⟨6, emp, 0, 3, [⟨6, emp, 0, 5, [⟨1, emp, 2, 0, [], 0⟩, nameE xN], 0⟩, ⟨1, emp, 1, 0, [], 0⟩], 0⟩
theorem ex_ok : progOk exP = true := by kernel_rfl
theorem ex_check : addAll [] (checkR exP) = [⟨29, tUndef⟩] := by decide +kernel
theorem ex_len : (checkR exP).length ≤ 100000 := by decide +kernel
theorem ex_names : (namesOf exP).length ≤ 100000 := by decide +kernel
theorem ex_const : constV exP exE = (7, true) := by decide +kernel
theorem ex_plain : Plain exP := ⟨by decide, by decide, by decide, by decide, by decide, fun t ht => by
  have : t = exT := by simpa [exP] using ht
  subst this
  refine ⟨rfl, rfl, fun x hx => ?_⟩
  have : x = exS := by simpa [exT] using hx
  subst this
  rfl⟩
theorem one_slice {N : Nat} {w : World} {b sz : Nat} {cs : List Value} {T : TypeId} (h : Blk w b cs.toArray T) (hN : b < N) (hs : cs.length = sz) (f : Nat → List Value) (hf : f 0 = cs) : SliceAt N w (.slice (some ⟨b, 0, none⟩) 1 1) 1 sz f :=
  ⟨_, 1, rfl, by omega, by omega, by omega, fun _ => ⟨b, 0, rfl, hN, fun i hi => by
    have : i = 0 := by omega
    subst this
    rw [hf]
    refine ⟨hs, fun j v hv => ?_⟩
    rw [Nat.zero_mul, Nat.zero_add]
    exact h.cell j (by simpa using hv)⟩⟩
theorem nil_slice (N : Nat) (w : World) (sz : Nat) (f : Nat → List Value) : SliceAt N w (.slice none 0 0) 0 sz f := ⟨none, 0, rfl, by omega, by omega, by omega, fun h => by omega⟩
theorem nil_exprs (N : Nat) (w : World) : ExprsAt N w (.slice none 0 0) [] := .mk _ _ (fun _ => .nilFunc) (nil_slice _ _ _ _) (fun i hi => by simp at hi) (fun i hi => by simp at hi)
theorem nil_stmts (N : Nat) (w : World) : StmtsAt N w (.slice none 0 0) [] := .mk _ _ (fun _ => .nilFunc) (fun _ => .nilFunc) (fun _ => .nilFunc) (nil_slice _ _ _ _) (fun i hi => by simp at hi) (fun i hi => by simp at hi) (fun i hi => by simp at hi) (fun i hi => by simp at hi)
theorem small_str {s : ByteArray} (h : s.size ≤ 100) : Str s := by unfold Str; omega
theorem ex_prog {N b0 b1 b3 b4 b5 : Nat} {w : World} {T0 T1 T3 T4 T5 : TypeId} (h0 : Blk w b0 #[.string xN, .int .i16 3, .int .i64 0] T0) (h1 : Blk w b1 #[.string xx, .int .i64 0, .int .i16 0, .int .i64 0] T1)
    (h3 : Blk w b3 #[.int .i64 2, .string xx, .int .i16 0, .int .i64 0, .slice none 0 0, .int .i64 0] T3)
    (h4 : Blk w b4 #[.int .i64 2, .string xy, .int .i64 0, .slice (some ⟨b3, 0, none⟩) 1 1, .slice none 0 0, .slice none 0 0, .int .i64 29] T4)
    (h5 : Blk w b5 #[.string xt, .int .i64 5, .int .i64 0, .string emp, .string emp, .int .i64 0, .slice (some ⟨b4, 0, none⟩) 1 1, .int .i64 0] T5)
    (n0 : b0 < N) (n1 : b1 < N) (n3 : b3 < N) (n4 : b4 < N) (n5 : b5 < N) :
    ProgAt N w (.slice (some ⟨b0, 0, none⟩) 1 1) (.slice (some ⟨b1, 0, none⟩) 1 1) (.slice none 0 0) (.slice none 0 0) (.slice none 0 0) (.slice (some ⟨b5, 0, none⟩) 1 1) exP := by
  have hex : ExprsAt N w (.slice (some ⟨b3, 0, none⟩) 1 1) [nameE xx] := by
    refine .mk _ _ (fun _ => .slice none 0 0) (one_slice h3 n3 rfl _ rfl) (fun i hi => ?_) (fun i hi => ?_)
    · have : i = 0 := by simpa using hi
      subst this
      exact ⟨by unfold I64; decide, small_str (by decide), by unfold I16; decide, by unfold I64; decide, by unfold I64; decide⟩
    · have : i = 0 := by simpa using hi
      subst this
      exact nil_exprs _ _
  have hst : StmtsAt N w (.slice (some ⟨b4, 0, none⟩) 1 1) [exS] := by
    refine .mk _ _ (fun _ => .slice (some ⟨b3, 0, none⟩) 1 1) (fun _ => .slice none 0 0) (fun _ => .slice none 0 0) (one_slice h4 n4 rfl _ rfl) (fun i hi => ?_) (fun i hi => ?_) (fun i hi => ?_) (fun i hi => ?_)
    all_goals
      have : i = 0 := by simpa using hi
      subst this
    · exact ⟨by unfold I64; decide, small_str (by decide), by unfold I64; decide, by unfold I64; decide⟩
    · exact hex
    · exact nil_stmts _ _
    · exact nil_stmts _ _
  refine ⟨one_slice h0 n0 rfl _ rfl, one_slice h1 n1 rfl _ rfl, nil_slice _ _ _ _, nil_slice _ _ _ _, nil_slice _ _ _ _, ⟨fun _ => .slice (some ⟨b4, 0, none⟩) 1 1, one_slice h5 n5 rfl _ rfl, fun i hi => ?_⟩, fun i hi => ?_, fun i hi => ?_, fun i hi => ?_, fun i hi => ?_, fun i hi => ?_⟩
  · have : i = 0 := by simpa [exP] using hi
    subst this
    exact ⟨⟨small_str (by decide), by unfold I64; decide, by unfold I64; decide, small_str (by decide), small_str (by decide), by unfold I64; decide, by unfold I64; decide⟩, hst⟩
  · have : i = 0 := by simpa [exP] using hi
    subst this
    exact ⟨small_str (by decide), by unfold I16; decide, by unfold I64; decide⟩
  · have : i = 0 := by simpa [exP] using hi
    subst this
    exact ⟨small_str (by decide), by unfold I64; decide, by unfold I16; decide, by unfold I64; decide⟩
  · simp [exP] at hi
  · simp [exP] at hi
  · simp [exP] at hi

theorem Blk.set {w : World} {k : Nat} {cs : Array Value} {T : TypeId} (h : Blk w k cs T) (o : Nat) (v : Value) : Blk (w.setCell ⟨k, o, none⟩ v) k (cs.setIfInBounds o v) T := set_heap h v
theorem stored_six {w4 W3 : World} {z0 z1 z2 z3 z4 z5 : Value} {T : TypeId} (hB4 : Below W3.heap.size W3 w4) (hq : Blk w4 W3.heap.size #[z0, z1, z2, z3, z4, z5] T) (a0 a1 a2 a3 a4 a5 : Value) (ar : Array Value) (T' : TypeId) :
    Below W3.heap.size W3 (((((((w4.setCell ⟨W3.heap.size, 0, none⟩ a0).setCell ⟨W3.heap.size, 1, none⟩ a1).setCell ⟨W3.heap.size, 2, none⟩ a2).setCell ⟨W3.heap.size, 3, none⟩ a3).setCell ⟨W3.heap.size, 4, none⟩ a4).setCell ⟨W3.heap.size, 5, none⟩ a5).alloc (.cells ar T')) ∧
    Blk (((((((w4.setCell ⟨W3.heap.size, 0, none⟩ a0).setCell ⟨W3.heap.size, 1, none⟩ a1).setCell ⟨W3.heap.size, 2, none⟩ a2).setCell ⟨W3.heap.size, 3, none⟩ a3).setCell ⟨W3.heap.size, 4, none⟩ a4).setCell ⟨W3.heap.size, 5, none⟩ a5).alloc (.cells ar T')) W3.heap.size #[a0, a1, a2, a3, a4, a5] T ∧
    Blk (((((((w4.setCell ⟨W3.heap.size, 0, none⟩ a0).setCell ⟨W3.heap.size, 1, none⟩ a1).setCell ⟨W3.heap.size, 2, none⟩ a2).setCell ⟨W3.heap.size, 3, none⟩ a3).setCell ⟨W3.heap.size, 4, none⟩ a4).setCell ⟨W3.heap.size, 5, none⟩ a5).alloc (.cells ar T')) w4.heap.size ar T' := by
  have h6 := (((((hq.set 0 a0).set 1 a1).set 2 a2).set 3 a3).set 4 a4).set 5 a5
  have hb := (((((hB4.setCell (p := ⟨W3.heap.size, 0, none⟩) (Nat.le_refl _) a0).setCell (p := ⟨W3.heap.size, 1, none⟩) (Nat.le_refl _) a1).setCell (p := ⟨W3.heap.size, 2, none⟩) (Nat.le_refl _) a2).setCell (p := ⟨W3.heap.size, 3, none⟩) (Nat.le_refl _) a3).setCell (p := ⟨W3.heap.size, 4, none⟩) (Nat.le_refl _) a4).setCell (p := ⟨W3.heap.size, 5, none⟩) (Nat.le_refl _) a5
  have hn := Blk.new ((((((w4.setCell ⟨W3.heap.size, 0, none⟩ a0).setCell ⟨W3.heap.size, 1, none⟩ a1).setCell ⟨W3.heap.size, 2, none⟩ a2).setCell ⟨W3.heap.size, 3, none⟩ a3).setCell ⟨W3.heap.size, 4, none⟩ a4).setCell ⟨W3.heap.size, 5, none⟩ a5) ar T'
  simp only [set_size] at hn
  exact ⟨hb.alloc hb.size _, h6.past _, hn⟩
theorem two_slice {N : Nat} {w : World} {b : Nat} {cs : Array Value} {T : TypeId} (h : Blk w b cs T) (hN : b < N) (f : Nat → List Value) (h0 : (f 0).length = 6) (h1 : (f 1).length = 6) (hf : cs.toList = f 0 ++ f 1) : SliceAt N w (.slice (some ⟨b, 0, none⟩) 2 2) 2 6 f :=
  ⟨_, 2, rfl, by omega, by omega, by omega, fun _ => ⟨b, 0, rfl, hN, fun i hi => by
    have hc : i = 0 ∨ i = 1 := by omega
    rcases hc with rfl | rfl
    · refine ⟨h0, fun j v hv => ?_⟩
      rw [Nat.zero_mul, Nat.zero_add]
      refine h.cell j ?_
      rw [← Array.getElem?_toList, hf, List.getElem?_append_left (List.getElem?_eq_some_iff.1 hv).1]
      exact hv
    · refine ⟨h1, fun j v hv => ?_⟩
      refine h.cell _ ?_
      rw [← Array.getElem?_toList, hf, List.getElem?_append_right (by omega), h0]
      rw [show 0 + 1 * 6 + j - 6 = j by omega]
      exact hv⟩⟩
theorem ex_exprs {N ab bb : Nat} {w : World} {T T' : TypeId}
    (ka : Blk w ab #[.int .i64 1, .string emp, .int .i16 2, .int .i64 0, .slice none 0 0, .int .i64 0, .int .i64 2, .string xN, .int .i16 0, .int .i64 0, .slice none 0 0, .int .i64 0] T)
    (kb : Blk w bb #[.int .i64 6, .string emp, .int .i16 0, .int .i64 5, .slice (some ⟨ab, 0, none⟩) 2 2, .int .i64 0, .int .i64 1, .string emp, .int .i16 1, .int .i64 0, .slice none 0 0, .int .i64 0] T')
    (na : ab < N) (nb : bb < N) : ExprsAt N w (.slice (some ⟨bb, 0, none⟩) 2 2) exE.args := by
  have hin : ExprsAt N w (.slice (some ⟨ab, 0, none⟩) 2 2) [⟨1, emp, 2, 0, [], 0⟩, nameE xN] := by
    refine .mk _ _ (fun _ => .slice none 0 0) (two_slice ka na _ rfl rfl rfl) (fun i hi => ?_) (fun i hi => ?_)
    · have hc : i = 0 ∨ i = 1 := by simp at hi; omega
      rcases hc with rfl | rfl
      · exact ⟨by unfold I64; decide, small_str (by decide), by unfold I16; decide, by unfold I64; decide, by unfold I64; decide⟩
      · exact ⟨by unfold I64; decide, small_str (by decide), by unfold I16; decide, by unfold I64; decide, by unfold I64; decide⟩
    · have hc : i = 0 ∨ i = 1 := by simp at hi; omega
      rcases hc with rfl | rfl <;> exact nil_exprs _ _
  refine .mk _ _ (fun i => if i = 0 then .slice (some ⟨ab, 0, none⟩) 2 2 else .slice none 0 0) (two_slice kb nb _ rfl rfl rfl) (fun i hi => ?_) (fun i hi => ?_)
  · have hc : i = 0 ∨ i = 1 := by simp [exE] at hi; omega
    rcases hc with rfl | rfl
    · exact ⟨by unfold I64; decide, small_str (by decide), by unfold I16; decide, by unfold I64; decide, by unfold I64; decide⟩
    · exact ⟨by unfold I64; decide, small_str (by decide), by unfold I16; decide, by unfold I64; decide, by unfold I64; decide⟩
  · have hc : i = 0 ∨ i = 1 := by simp [exE] at hi; omega
    rcases hc with rfl | rfl
    · exact hin
    · exact nil_exprs _ _
theorem exE_wf : exE.Wf := ⟨by unfold I64; decide, small_str (by decide), by unfold I16; decide, by unfold I64; decide, by unfold I64; decide⟩

set_option maxRecDepth 100000 in
set_option maxHeartbeats 4000000 in
theorem examples_any (w : World) (hT : Tabs w) : Calls Tryz.prog 11 #[] w fun e w' => e = .returned (.bool true) ∧ Below w.heap.size w w' := by
  go_enter Tryz.func11, Tryz.ntmps11
  go_upto_region 2 with (go_at_call 31; refine (name_any _ _).mono ?_; rintro e w1 ⟨rfl, hB1⟩)
  have hw2 := below_two w (.cells #[.string ⟨#[78]⟩, .int .i16 3, .int .i64 0] 67) (.cells #[.string ⟨#[120]⟩, .int .i64 0, .int .i16 0, .int .i64 0] 69)
  obtain ⟨k0, k1⟩ := Blk.two w #[.string ⟨#[78]⟩, .int .i16 3, .int .i64 0] 67 #[.string ⟨#[120]⟩, .int .i64 0, .int .i16 0, .int .i64 0] 69
  replace k0 := k0.later hB1
  replace k1 := k1.later hB1
  have hBw := hw2.trans (hB1.mono hw2.size)
  clear hB1 hw2
  obtain ⟨k3, k4⟩ := Blk.two w1 #[.int .i64 2, .string ⟨#[120]⟩, .int .i16 0, .int .i64 0, .slice none 0 0, .int .i64 0] 40 #[.int .i64 2, .string ⟨#[121]⟩, .int .i64 0, .slice (some ⟨w1.heap.size, 0, none⟩) 1 1, .slice none 0 0, .slice none 0 0, .int .i64 29] 44
  have k5 := Blk.new ((w1.alloc (.cells #[.int .i64 2, .string ⟨#[120]⟩, .int .i16 0, .int .i64 0, .slice none 0 0, .int .i64 0] 40)).alloc (.cells #[.int .i64 2, .string ⟨#[121]⟩, .int .i64 0, .slice (some ⟨w1.heap.size, 0, none⟩) 1 1, .slice none 0 0, .slice none 0 0, .int .i64 29] 44)) #[.string ⟨#[116]⟩, .int .i64 5, .int .i64 0, .string ⟨#[]⟩, .string ⟨#[]⟩, .int .i64 0, .slice (some ⟨w1.heap.size + 1, 0, none⟩) 1 1, .int .i64 0] 53
  have kP := Blk.new (((w1.alloc (.cells #[.int .i64 2, .string ⟨#[120]⟩, .int .i16 0, .int .i64 0, .slice none 0 0, .int .i64 0] 40)).alloc (.cells #[.int .i64 2, .string ⟨#[121]⟩, .int .i64 0, .slice (some ⟨w1.heap.size, 0, none⟩) 1 1, .slice none 0 0, .slice none 0 0, .int .i64 29] 44)).alloc (.cells #[.string ⟨#[116]⟩, .int .i64 5, .int .i64 0, .string ⟨#[]⟩, .string ⟨#[]⟩, .int .i64 0, .slice (some ⟨w1.heap.size + 1, 0, none⟩) 1 1, .int .i64 0] 53)) #[.slice (some ⟨w.heap.size, 0, none⟩) 1 1, .slice (some ⟨w.heap.size + 1, 0, none⟩) 1 1, .slice none 0 0, .slice none 0 0, .slice none 0 0, .slice (some ⟨w1.heap.size + 1 + 1, 0, none⟩) 1 1] 28
  have hZ : Below w1.heap.size w1 ((((w1.alloc (.cells #[.int .i64 2, .string ⟨#[120]⟩, .int .i16 0, .int .i64 0, .slice none 0 0, .int .i64 0] 40)).alloc (.cells #[.int .i64 2, .string ⟨#[121]⟩, .int .i64 0, .slice (some ⟨w1.heap.size, 0, none⟩) 1 1, .slice none 0 0, .slice none 0 0, .int .i64 29] 44)).alloc (.cells #[.string ⟨#[116]⟩, .int .i64 5, .int .i64 0, .string ⟨#[]⟩, .string ⟨#[]⟩, .int .i64 0, .slice (some ⟨w1.heap.size + 1, 0, none⟩) 1 1, .int .i64 0] 53)).alloc (.cells #[.slice (some ⟨w.heap.size, 0, none⟩) 1 1, .slice (some ⟨w.heap.size + 1, 0, none⟩) 1 1, .slice none 0 0, .slice none 0 0, .slice none 0 0, .slice (some ⟨w1.heap.size + 1 + 1, 0, none⟩) 1 1] 28)) := (((((Below.refl w1.heap.size w1).alloc (Nat.le_refl _) _).alloc (by simp) _).alloc (by simp; omega) _).alloc (by simp; omega) _)
  replace k0 := k0.later hZ
  replace k1 := k1.later hZ
  replace k3 := (k3.past (.cells #[.string ⟨#[116]⟩, .int .i64 5, .int .i64 0, .string ⟨#[]⟩, .string ⟨#[]⟩, .int .i64 0, .slice (some ⟨w1.heap.size + 1, 0, none⟩) 1 1, .int .i64 0] 53)).past (.cells #[.slice (some ⟨w.heap.size, 0, none⟩) 1 1, .slice (some ⟨w.heap.size + 1, 0, none⟩) 1 1, .slice none 0 0, .slice none 0 0, .slice none 0 0, .slice (some ⟨w1.heap.size + 1 + 1, 0, none⟩) 1 1] 28)
  replace k4 := (k4.past (.cells #[.string ⟨#[116]⟩, .int .i64 5, .int .i64 0, .string ⟨#[]⟩, .string ⟨#[]⟩, .int .i64 0, .slice (some ⟨w1.heap.size + 1, 0, none⟩) 1 1, .int .i64 0] 53)).past (.cells #[.slice (some ⟨w.heap.size, 0, none⟩) 1 1, .slice (some ⟨w.heap.size + 1, 0, none⟩) 1 1, .slice none 0 0, .slice none 0 0, .slice none 0 0, .slice (some ⟨w1.heap.size + 1 + 1, 0, none⟩) 1 1] 28)
  replace k5 := k5.past (.cells #[.slice (some ⟨w.heap.size, 0, none⟩) 1 1, .slice (some ⟨w.heap.size + 1, 0, none⟩) 1 1, .slice none 0 0, .slice none 0 0, .slice none 0 0, .slice (some ⟨w1.heap.size + 1 + 1, 0, none⟩) 1 1] 28)
  simp only [World.size_alloc] at k5 kP
  have hsz : ((((w1.alloc (.cells #[.int .i64 2, .string ⟨#[120]⟩, .int .i16 0, .int .i64 0, .slice none 0 0, .int .i64 0] 40)).alloc (.cells #[.int .i64 2, .string ⟨#[121]⟩, .int .i64 0, .slice (some ⟨w1.heap.size, 0, none⟩) 1 1, .slice none 0 0, .slice none 0 0, .int .i64 29] 44)).alloc (.cells #[.string ⟨#[116]⟩, .int .i64 5, .int .i64 0, .string ⟨#[]⟩, .string ⟨#[]⟩, .int .i64 0, .slice (some ⟨w1.heap.size + 1, 0, none⟩) 1 1, .int .i64 0] 53)).alloc (.cells #[.slice (some ⟨w.heap.size, 0, none⟩) 1 1, .slice (some ⟨w.heap.size + 1, 0, none⟩) 1 1, .slice none 0 0, .slice none 0 0, .slice none 0 0, .slice (some ⟨w1.heap.size + 1 + 1, 0, none⟩) 1 1] 28)).heap.size = w1.heap.size + 4 := by simp
  generalize ((((w1.alloc (.cells #[.int .i64 2, .string ⟨#[120]⟩, .int .i16 0, .int .i64 0, .slice none 0 0, .int .i64 0] 40)).alloc (.cells #[.int .i64 2, .string ⟨#[121]⟩, .int .i64 0, .slice (some ⟨w1.heap.size, 0, none⟩) 1 1, .slice none 0 0, .slice none 0 0, .int .i64 29] 44)).alloc (.cells #[.string ⟨#[116]⟩, .int .i64 5, .int .i64 0, .string ⟨#[]⟩, .string ⟨#[]⟩, .int .i64 0, .slice (some ⟨w1.heap.size + 1, 0, none⟩) 1 1, .int .i64 0] 53)).alloc (.cells #[.slice (some ⟨w.heap.size, 0, none⟩) 1 1, .slice (some ⟨w.heap.size + 1, 0, none⟩) 1 1, .slice none 0 0, .slice none 0 0, .slice none 0 0, .slice (some ⟨w1.heap.size + 1 + 1, 0, none⟩) 1 1] 28)) = Z at k0 k1 k3 k4 k5 kP hZ hsz ⊢
  have hbl := hBw.size
  have hb1 := k1.lt
  have hlt1 : w.heap.size + 1 < w1.heap.size ∨ True := .inr trivial
  have hprog := ex_prog (N := w1.heap.size + 4) k0 k1 k3 k4 k5 (by omega) (by omega) (by omega) (by omega) (by omega)
  have hTZ := Lib.hid ((hT.later hBw).later hZ)
  obtain ⟨p0, p1, p2, p3, p4, p5⟩ := kP.six
  clear p0 p1 p2 p3 p4 p5
  obtain ⟨p0, p1, p2, p3, p4, p5⟩ := kP.six
  have HCK := Lib.hid (Check_in exP _ _ _ _ _ _ (w1.heap.size + 4) Z hprog (by omega) hTZ.out ex_ok ex_plain ex_len ex_names)
  go_upto_region 3 with (go_at_call 13; refine HCK.out.mono ?_; rintro e w2 ⟨v, l, rfl, hpm, _, hdi, hB2⟩)
  rw [ex_check] at hpm
  obtain rfl := List.perm_singleton.1 hpm
  obtain ⟨oa, cap, rfl, _, _, _⟩ := SliceAt.slice hdi
  obtain ⟨d, bd, off, hd, rfl, hbd, d0, d1⟩ := DiagsAt.at hdi (k := 0) (by simp)
  obtain rfl : (⟨29, tUndef⟩ : Diag) = d := by simpa using hd
  rw [Nat.zero_mul, Nat.add_zero] at d0 d1
  clear hpm hdi hd p0 p1 p2 p3 p4 p5
  have hp2 := hprog.lift (hB2.mono (by omega))
  have kP2 := kP.later hB2
  have hB2s := hB2.size
  go_upto_region 4 with fail
  have h3 := below_two w2 (.cells #[.int .i64 1, .string ⟨#[]⟩, .int .i16 2, .int .i64 0, .slice none 0 0, .int .i64 0] 40) (.cells #[.int .i64 1, .string ⟨#[]⟩, .int .i16 1, .int .i64 0, .slice none 0 0, .int .i64 0] 40)
  obtain ⟨m3, m4⟩ := Blk.two w2 #[.int .i64 1, .string ⟨#[]⟩, .int .i16 2, .int .i64 0, .slice none 0 0, .int .i64 0] 40 #[.int .i64 1, .string ⟨#[]⟩, .int .i16 1, .int .i64 0, .slice none 0 0, .int .i64 0] 40
  have h3s : ((w2.alloc (.cells #[.int .i64 1, .string ⟨#[]⟩, .int .i16 2, .int .i64 0, .slice none 0 0, .int .i64 0] 40)).alloc (.cells #[.int .i64 1, .string ⟨#[]⟩, .int .i16 1, .int .i64 0, .slice none 0 0, .int .i64 0] 40)).heap.size = w2.heap.size + 2 := by simp
  generalize ((w2.alloc (.cells #[.int .i64 1, .string ⟨#[]⟩, .int .i16 2, .int .i64 0, .slice none 0 0, .int .i64 0] 40)).alloc (.cells #[.int .i64 1, .string ⟨#[]⟩, .int .i16 1, .int .i64 0, .slice none 0 0, .int .i64 0] 40)) = W3 at h3 m3 m4 h3s ⊢
  replace d0 := cell_later d0 h3
  replace d1 := cell_later d1 h3
  have kP3 := kP2.later h3
  have hp3 := hp2.lift (h3.mono (by omega))
  obtain ⟨x0, x1, x2, x3, x4, x5⟩ := m3.six
  clear k0 k1 k3 k4 k5 kP hprog hT hTZ
  have H3S := Lib.hid h3s
  have HSZ := Lib.hid hsz
  clear h3s hsz
  go_cut [5] from 23 (fun v wx => ∃ bx ab, v = .pointer (some ⟨bx, 0, none⟩) ∧ Below W3.heap.size W3 wx ∧ Blk wx bx #[.int .i64 6, .string ⟨#[]⟩, .int .i16 0, .int .i64 5, .slice (some ⟨ab, 0, none⟩) 2 2, .int .i64 0] 40 ∧ Blk wx ab #[.int .i64 1, .string ⟨#[]⟩, .int .i16 2, .int .i64 0, .slice none 0 0, .int .i64 0, .int .i64 2, .string ⟨#[78]⟩, .int .i16 0, .int .i64 0, .slice none 0 0, .int .i64 0] 40)
  case first =>
    have HN : Hid (∀ W' : World, Below W3.heap.size W3 W' → Calls Tryz.prog 31 #[.string ⟨#[78]⟩] W' fun e w4 => e = .returned (.agg #[.int .i64 2, .string ⟨#[78]⟩, .int .i16 0, .int .i64 0, .slice none 0 0, .int .i64 0]) ∧ Below W3.heap.size W3 w4 ∧ ∀ k cs T, Blk W' k cs T → Blk w4 k cs T) :=
      Lib.hid fun W' hW => (name_any ⟨#[78]⟩ W').mono fun e w4 ⟨h1, h2⟩ => ⟨h1, hW.trans (h2.mono hW.size), fun k cs T hb => hb.later h2⟩
    have hA1 := ((Below.refl W3.heap.size W3).drew)
    have hA2 := (((Below.refl W3.heap.size W3).alloc (Nat.le_refl _) (.cells #[.int .i64 0, .string ⟨#[]⟩, .int .i16 0, .int .i64 0, .slice none 0 0, .int .i64 0] 40)).drew)
    have hQ : Blk ((W3.alloc (.cells #[.int .i64 0, .string ⟨#[]⟩, .int .i16 0, .int .i64 0, .slice none 0 0, .int .i64 0] 40)).drew) W3.heap.size #[.int .i64 0, .string ⟨#[]⟩, .int .i16 0, .int .i64 0, .slice none 0 0, .int .i64 0] 40 := Blk.new W3 #[.int .i64 0, .string ⟨#[]⟩, .int .i16 0, .int .i64 0, .slice none 0 0, .int .i64 0] 40
    have HA1 := Lib.hid hA1
    have HA2 := Lib.hid hA2
    have HQ := Lib.hid hQ
    clear hA1 hA2 hQ
    have u0 : ∀ o, (W3.alloc o).cell? ⟨w2.heap.size, 0, none⟩ = some (.int .i64 1) := fun o => (m3.past o).cell 0 rfl
    have u1 : ∀ o, (W3.alloc o).cell? ⟨w2.heap.size, 1, none⟩ = some (.string ⟨#[]⟩) := fun o => (m3.past o).cell 1 rfl
    have u2 : ∀ o, (W3.alloc o).cell? ⟨w2.heap.size, 2, none⟩ = some (.int .i16 2) := fun o => (m3.past o).cell 2 rfl
    have u3 : ∀ o, (W3.alloc o).cell? ⟨w2.heap.size, 3, none⟩ = some (.int .i64 0) := fun o => (m3.past o).cell 3 rfl
    have u4 : ∀ o, (W3.alloc o).cell? ⟨w2.heap.size, 4, none⟩ = some (.slice none 0 0) := fun o => (m3.past o).cell 4 rfl
    have u5 : ∀ o, (W3.alloc o).cell? ⟨w2.heap.size, 5, none⟩ = some (.int .i64 0) := fun o => (m3.past o).cell 5 rfl
    go_region_with (go_at_call 31; refine (HN.out _ (by first | exact HA1.out | exact HA2.out)).mono ?_; rintro e w4 ⟨rfl, hB4, hK4⟩; obtain ⟨x0, x1, x2, x3, x4, x5⟩ := (m3.later hB4).six; have v0 : ∀ o, (w4.alloc o).cell? ⟨w2.heap.size, 0, none⟩ = some (.int .i64 1) := fun o => ((m3.later hB4).past o).cell 0 rfl; have v1 : ∀ o, (w4.alloc o).cell? ⟨w2.heap.size, 1, none⟩ = some (.string ⟨#[]⟩) := fun o => ((m3.later hB4).past o).cell 1 rfl; have v2 : ∀ o, (w4.alloc o).cell? ⟨w2.heap.size, 2, none⟩ = some (.int .i16 2) := fun o => ((m3.later hB4).past o).cell 2 rfl; have v3 : ∀ o, (w4.alloc o).cell? ⟨w2.heap.size, 3, none⟩ = some (.int .i64 0) := fun o => ((m3.later hB4).past o).cell 3 rfl; have v4 : ∀ o, (w4.alloc o).cell? ⟨w2.heap.size, 4, none⟩ = some (.slice none 0 0) := fun o => ((m3.later hB4).past o).cell 4 rfl; have v5 : ∀ o, (w4.alloc o).cell? ⟨w2.heap.size, 5, none⟩ = some (.int .i64 0) := fun o => ((m3.later hB4).past o).cell 5 rfl; have hz := Blk.new w4 #[.int .i64 0, .string ⟨#[]⟩, .int .i16 0, .int .i64 0, .slice none 0 0, .int .i64 0] 40; have s0 : ∀ o, ((w4.alloc (.cells #[.int .i64 0, .string ⟨#[]⟩, .int .i16 0, .int .i64 0, .slice none 0 0, .int .i64 0] 40)).alloc o).cell? ⟨w4.heap.size, 0, none⟩ = some (.int .i64 0) := fun o => (hz.past o).cell 0 rfl; have g0 : ∀ o, ((w4.alloc (.cells #[.int .i64 0, .string ⟨#[]⟩, .int .i16 0, .int .i64 0, .slice none 0 0, .int .i64 0] 40)).alloc o).frozen? ⟨w4.heap.size, 0, none⟩ = false := fun o => (hz.past o).froz 0; have s1 : ∀ o, ((w4.alloc (.cells #[.int .i64 0, .string ⟨#[]⟩, .int .i16 0, .int .i64 0, .slice none 0 0, .int .i64 0] 40)).alloc o).cell? ⟨w4.heap.size, 1, none⟩ = some (.string ⟨#[]⟩) := fun o => (hz.past o).cell 1 rfl; have g1 : ∀ o, ((w4.alloc (.cells #[.int .i64 0, .string ⟨#[]⟩, .int .i16 0, .int .i64 0, .slice none 0 0, .int .i64 0] 40)).alloc o).frozen? ⟨w4.heap.size, 1, none⟩ = false := fun o => (hz.past o).froz 1; have s2 : ∀ o, ((w4.alloc (.cells #[.int .i64 0, .string ⟨#[]⟩, .int .i16 0, .int .i64 0, .slice none 0 0, .int .i64 0] 40)).alloc o).cell? ⟨w4.heap.size, 2, none⟩ = some (.int .i16 0) := fun o => (hz.past o).cell 2 rfl; have g2 : ∀ o, ((w4.alloc (.cells #[.int .i64 0, .string ⟨#[]⟩, .int .i16 0, .int .i64 0, .slice none 0 0, .int .i64 0] 40)).alloc o).frozen? ⟨w4.heap.size, 2, none⟩ = false := fun o => (hz.past o).froz 2; have s3 : ∀ o, ((w4.alloc (.cells #[.int .i64 0, .string ⟨#[]⟩, .int .i16 0, .int .i64 0, .slice none 0 0, .int .i64 0] 40)).alloc o).cell? ⟨w4.heap.size, 3, none⟩ = some (.int .i64 0) := fun o => (hz.past o).cell 3 rfl; have g3 : ∀ o, ((w4.alloc (.cells #[.int .i64 0, .string ⟨#[]⟩, .int .i16 0, .int .i64 0, .slice none 0 0, .int .i64 0] 40)).alloc o).frozen? ⟨w4.heap.size, 3, none⟩ = false := fun o => (hz.past o).froz 3; have s4 : ∀ o, ((w4.alloc (.cells #[.int .i64 0, .string ⟨#[]⟩, .int .i16 0, .int .i64 0, .slice none 0 0, .int .i64 0] 40)).alloc o).cell? ⟨w4.heap.size, 4, none⟩ = some (.slice none 0 0) := fun o => (hz.past o).cell 4 rfl; have g4 : ∀ o, ((w4.alloc (.cells #[.int .i64 0, .string ⟨#[]⟩, .int .i16 0, .int .i64 0, .slice none 0 0, .int .i64 0] 40)).alloc o).frozen? ⟨w4.heap.size, 4, none⟩ = false := fun o => (hz.past o).froz 4; have s5 : ∀ o, ((w4.alloc (.cells #[.int .i64 0, .string ⟨#[]⟩, .int .i16 0, .int .i64 0, .slice none 0 0, .int .i64 0] 40)).alloc o).cell? ⟨w4.heap.size, 5, none⟩ = some (.int .i64 0) := fun o => (hz.past o).cell 5 rfl; have g5 : ∀ o, ((w4.alloc (.cells #[.int .i64 0, .string ⟨#[]⟩, .int .i16 0, .int .i64 0, .slice none 0 0, .int .i64 0] 40)).alloc o).frozen? ⟨w4.heap.size, 5, none⟩ = false := fun o => (hz.past o).froz 5; try (have hq := hK4 _ _ _ HQ.out; have hl4 := hq.lt; have p0 : w4.cell? ⟨W3.heap.size, 0, none⟩ = some (.int .i64 0) := hq.cell 0 rfl; have e0 : w4.frozen? ⟨W3.heap.size, 0, none⟩ = false := hq.froz 0; have p1 : w4.cell? ⟨W3.heap.size, 1, none⟩ = some (.string ⟨#[]⟩) := hq.cell 1 rfl; have e1 : w4.frozen? ⟨W3.heap.size, 1, none⟩ = false := hq.froz 1; have p2 : w4.cell? ⟨W3.heap.size, 2, none⟩ = some (.int .i16 0) := hq.cell 2 rfl; have e2 : w4.frozen? ⟨W3.heap.size, 2, none⟩ = false := hq.froz 2; have p3 : w4.cell? ⟨W3.heap.size, 3, none⟩ = some (.int .i64 0) := hq.cell 3 rfl; have e3 : w4.frozen? ⟨W3.heap.size, 3, none⟩ = false := hq.froz 3; have p4 : w4.cell? ⟨W3.heap.size, 4, none⟩ = some (.slice none 0 0) := hq.cell 4 rfl; have e4 : w4.frozen? ⟨W3.heap.size, 4, none⟩ = false := hq.froz 4; have p5 : w4.cell? ⟨W3.heap.size, 5, none⟩ = some (.int .i64 0) := hq.cell 5 rfl; have e5 : w4.frozen? ⟨W3.heap.size, 5, none⟩ = false := hq.froz 5; have q0 : ∀ o, (w4.alloc o).cell? ⟨W3.heap.size, 0, none⟩ = some (.int .i64 0) := fun o => (hq.past o).cell 0 rfl; have f0 : ∀ o, (w4.alloc o).frozen? ⟨W3.heap.size, 0, none⟩ = false := fun o => (hq.past o).froz 0; have q1 : ∀ o, (w4.alloc o).cell? ⟨W3.heap.size, 1, none⟩ = some (.string ⟨#[]⟩) := fun o => (hq.past o).cell 1 rfl; have f1 : ∀ o, (w4.alloc o).frozen? ⟨W3.heap.size, 1, none⟩ = false := fun o => (hq.past o).froz 1; have q2 : ∀ o, (w4.alloc o).cell? ⟨W3.heap.size, 2, none⟩ = some (.int .i16 0) := fun o => (hq.past o).cell 2 rfl; have f2 : ∀ o, (w4.alloc o).frozen? ⟨W3.heap.size, 2, none⟩ = false := fun o => (hq.past o).froz 2; have q3 : ∀ o, (w4.alloc o).cell? ⟨W3.heap.size, 3, none⟩ = some (.int .i64 0) := fun o => (hq.past o).cell 3 rfl; have f3 : ∀ o, (w4.alloc o).frozen? ⟨W3.heap.size, 3, none⟩ = false := fun o => (hq.past o).froz 3; have q4 : ∀ o, (w4.alloc o).cell? ⟨W3.heap.size, 4, none⟩ = some (.slice none 0 0) := fun o => (hq.past o).cell 4 rfl; have f4 : ∀ o, (w4.alloc o).frozen? ⟨W3.heap.size, 4, none⟩ = false := fun o => (hq.past o).froz 4; have q5 : ∀ o, (w4.alloc o).cell? ⟨W3.heap.size, 5, none⟩ = some (.int .i64 0) := fun o => (hq.past o).cell 5 rfl; have f5 : ∀ o, (w4.alloc o).frozen? ⟨W3.heap.size, 5, none⟩ = false := fun o => (hq.past o).froz 5))
    all_goals go_wp2_with fail
    all_goals go_meet
    all_goals first
      | refine ⟨w4.heap.size + 1, w4.heap.size, rfl, ?_⟩; exact ⟨hB4.trans ((below_two w4 _ _).mono hB4.size), (Blk.two w4 _ _ _ _).2, (Blk.two w4 _ _ _ _).1⟩
      | refine ⟨w4.heap.size, w4.heap.size + 1, rfl, ?_⟩; exact ⟨hB4.trans ((below_two w4 _ _).mono hB4.size), (Blk.two w4 _ _ _ _).1, (Blk.two w4 _ _ _ _).2⟩
      | refine ⟨W3.heap.size, w4.heap.size, rfl, ?_⟩; exact stored_six hB4 hq _ _ _ _ _ _ _ _
  case rest =>
    obtain ⟨bx, ab, rfl, hB5, kx, ka⟩ := hcut
    have kP5 := kP3.later hB5
    have m5 := m4.later hB5
    have e0 := cell_later d0 hB5
    have e1 := cell_later d1 hB5
    obtain ⟨p0, p1, p2, p3, p4, p5⟩ := kP5.six
    obtain ⟨y0, y1, y2, y3, y4, y5⟩ := kx.six
    obtain ⟨z0, z1, z2, z3, z4, z5⟩ := m5.six
    have hB6 := (Below.refl wc.heap.size wc).alloc (Nat.le_refl _) (.cells #[.int .i64 6, .string ⟨#[]⟩, .int .i16 0, .int .i64 5, .slice (some ⟨ab, 0, none⟩) 2 2, .int .i64 0, .int .i64 1, .string ⟨#[]⟩, .int .i16 1, .int .i64 0, .slice none 0 0, .int .i64 0] 40)
    have kb := Blk.new wc #[.int .i64 6, .string ⟨#[]⟩, .int .i16 0, .int .i64 5, .slice (some ⟨ab, 0, none⟩) 2 2, .int .i64 0, .int .i64 1, .string ⟨#[]⟩, .int .i16 1, .int .i64 0, .slice none 0 0, .int .i64 0] 40
    have ka6 := ka.past (.cells #[.int .i64 6, .string ⟨#[]⟩, .int .i16 0, .int .i64 5, .slice (some ⟨ab, 0, none⟩) 2 2, .int .i64 0, .int .i64 1, .string ⟨#[]⟩, .int .i16 1, .int .i64 0, .slice none 0 0, .int .i64 0] 40)
    have hs5 := hB5.size
    have hla := ka.lt
    have hsA := HSZ.out
    have hsB := H3S.out
    have hp6 := (hp3.lift (hB5.mono (by omega))).lift (hB6.mono (by omega))
    have hex := ex_exprs (N := wc.heap.size + 1) ka6 kb (by omega) (by omega)
    have HCV := Lib.hid (ConstValue_any exP (esz exE + 1) exE _ _ _ _ _ _ _ (wc.heap.size + 1) _ (Nat.lt_succ_self _) (hp6.mono (by omega)) exE_wf hex (by simp))
    have q0 := cell_later e0 hB6
    have q1 := cell_later e1 hB6
    have hfin : ∀ w7, Below (wc.alloc (.cells #[.int .i64 6, .string ⟨#[]⟩, .int .i16 0, .int .i64 5, .slice (some ⟨ab, 0, none⟩) 2 2, .int .i64 0, .int .i64 1, .string ⟨#[]⟩, .int .i16 1, .int .i64 0, .slice none 0 0, .int .i64 0] 40)).heap.size (wc.alloc (.cells #[.int .i64 6, .string ⟨#[]⟩, .int .i16 0, .int .i64 5, .slice (some ⟨ab, 0, none⟩) 2 2, .int .i64 0, .int .i64 1, .string ⟨#[]⟩, .int .i16 1, .int .i64 0, .slice none 0 0, .int .i64 0] 40)) w7 → Below w.heap.size w w7 := fun w7 h7 =>
      hBw.trans ((hZ.trans ((hB2.trans ((h3.trans ((hB5.trans ((hB6.trans (h7.mono hB6.size)).mono hB5.size)).mono h3.size)).mono hB2.size)).mono hZ.size)).mono hBw.size)
    have HF := Lib.hid hfin
    clear hs5 hla hsA hsB hp6 hex hfin
    go_wp2_with (go_at_call 18; refine HCV.out.mono ?_; rintro e w7 ⟨⟨rfl, _⟩, hB7⟩; rw [ex_const]; have r0 := cell_later q0 hB7; have r1 := cell_later q1 hB7)
    go_ret
    exact ⟨rfl, HF.out _ hB7⟩
end Go.Proofs.YtkfdnlfkomhmfaaGreatDoor
