/- check.table: a map by name, filled backward. -/
import Derived.RangeFuncNested
import Derived.RangeFuncBound
import Derived.RangeFuncCalls
import Derived.RangeFuncLeaves
import Derived.Shelf.Abstract
import Derived.WalkKit
import Derived.OwnWalkIn
import Derived.TacticsInMore
import Derived.LoopNIn
import Derived.LoopIn
import Derived.Maps.OwnIn
import Derived.Test.YtkfdnlfkomhmfaaGreatDoorNames
import Derived.Test.YtkfdnlfkomhmfaaGreatDoorMap
import Derived.Test.YtkfdnlfkomhmfaaGreatDoorMore
namespace Go.Proofs.YtkfdnlfkomhmfaaGreatDoor
open Go.RowKit Go.Shelf
set_option linter.unusedVariables false
set_option linter.unusedSimpArgs false
attribute [local go_sem] Oper.semAt_some

abbrev IDecl := Nat × Decl
def encD (x : IDecl) : Array Value := #[.int .i64 (x.1 : Int), .agg #[.string x.2.name, .int .i64 x.2.kind, .int .i64 x.2.index, .int .i64 x.2.pos]]
def upB (ds : List Decl) (k : Nat) : List IDecl := (List.range k).map fun j => (ds.length - 1 - j, ds.getD (ds.length - 1 - j) default)
theorem upB_succ (ds : List Decl) (k : Nat) : upB ds (k + 1) = upB ds k ++ [(ds.length - 1 - k, ds.getD (ds.length - 1 - k) default)] := by simp [upB, List.range_succ]
theorem upB_length (ds : List Decl) (k : Nat) : (upB ds k).length = k := by simp [upB]

/-- the declarations' cells in block b -/
def DeclCells (W : World) (b : Nat) (ds : List Decl) : Prop := ∀ m, m < ds.length →
  W.cell? ⟨b, m * 4, none⟩ = some (.string (ds.getD m default).name) ∧ W.cell? ⟨b, m * 4 + 1, none⟩ = some (.int .i64 (ds.getD m default).kind) ∧
  W.cell? ⟨b, m * 4 + 2, none⟩ = some (.int .i64 (ds.getD m default).index) ∧ W.cell? ⟨b, m * 4 + 3, none⟩ = some (.int .i64 (ds.getD m default).pos)
theorem DeclCells.kept {W W' : World} {b : Nat} {ds : List Decl} (h : DeclCells W b ds) (hb : W'.heap[b]? = W.heap[b]?) : DeclCells W' b ds := fun m hm => by
  obtain ⟨h1, h2, h3, h4⟩ := h m hm
  exact ⟨by rw [World.cell?_of_block (w := W) hb]; exact h1, by rw [World.cell?_of_block (w := W) hb]; exact h2, by rw [World.cell?_of_block (w := W) hb]; exact h3, by rw [World.cell?_of_block (w := W) hb]; exact h4⟩

/-- what a round keeps: the row and the box -/
def KpB (b Bs : Nat) (W W' : World) : Prop := W'.heap[b]? = W.heap[b]? ∧ W'.heap[Bs]? = W.heap[Bs]?
theorem KpB.refl (b Bs : Nat) (W : World) : KpB b Bs W W := ⟨rfl, rfl⟩
theorem KpB.trans {b Bs : Nat} {A B C : World} (h : KpB b Bs A B) (k : KpB b Bs B C) : KpB b Bs A C := ⟨k.1.trans h.1, k.2.trans h.2⟩

set_option maxRecDepth 100000 in
set_option maxHeartbeats 4000000 in
theorem back1_in (F : Fence) (n : Nat) (hf : F.fn 110) (hro : F.round = none) (hn : 1 ≤ n) (l Bs b : Nat) (oa : Option Addr) (cap : Nat) (ds : List Decl) (hlen : ds.length ≤ 7000000)
    (hoa : 0 < ds.length → oa = some ⟨b, 0, none⟩) (J Jx : List IDecl → World → Prop)
    (hY : ∀ pre x W, J pre W → pre.length < ds.length → YieldAt F (n - 1) Tryz.prog l (encD x) W fun e W' =>
      (e = .returned (.bool true) ∧ J (pre ++ [x]) W' ∧ KpB b Bs W W') ∨ (e = .returned (.bool false) ∧ Jx (pre ++ [x]) W'))
    (W : World) (hBs : W.cell? ⟨Bs, 0, none⟩ = some (.slice oa ds.length cap)) (hc : DeclCells W b ds) (h0 : J [] W) :
    CallsIn F n Tryz.prog 110 #[.func (.yield l) #[] #[], .pointer (some ⟨Bs, 0, none⟩)] W fun e W' => (∃ v, e = .returned v) ∧
      ((∃ ys, ys = upB ds ds.length ∧ J ys W') ∨ (∃ pre, True ∧ Jx pre W')) := by
  refine callsIn_of_wp Tryz.func110 rfl hf ?_ hro
  simp only [Tryz.ntmps110, List.size_toArray, List.length_cons, List.length_nil, Nat.reduceAdd, Nat.reduceSub, Array.replicate_succ, Array.replicate_zero, List.push_toArray, List.append_toArray, List.nil_append, List.cons_append]
  gi_wp2
  gi_loopw [3] (fun i wr => ∃ k : Nat, k ≤ ds.length ∧ i = .int .i64 ((ds.length : Int) - 1 - k) ∧ J (upB ds k) wr ∧ KpB b Bs W wr)
    (fun i _ => (intOf i + 1).toNat)
  case atStart => exact ⟨0, Nat.zero_le _, by simp, h0, KpB.refl _ _ _⟩
  case round =>
    obtain ⟨k, hk, rfl, hJs, hnx⟩ := hrel
    have hBs' : wr.cell? ⟨Bs, 0, none⟩ = some (.slice oa ds.length cap) := by rw [World.cell?_of_block (w := W) hnx.2]; exact hBs
    by_cases hlt : k < ds.length
    · obtain ⟨fn, tmps, assign, body, hy, hR⟩ := hY _ (ds.length - 1 - k, ds.getD (ds.length - 1 - k) default) wr hJs (by rw [upB_length]; exact hlt)
      simp only [encD] at hy
      obtain ⟨c0, c1, c2, c3⟩ := hc.kept hnx.1 (ds.length - 1 - k) (by omega)
      obtain rfl := hoa (by omega)
      have hm : ((ds.length : Int) - 1 - k) = ((ds.length - 1 - k : Nat) : Int) := by omega
      have hmm : ds.length - 1 - k < ds.length := by omega
      generalize hM : ds.length - 1 - k = M at *
      rw [hm]
      generalize hX : ds.getD M default = X at *
      gi_wp2
      refine hR.mono ?_
      rintro e W3 (⟨rfl, hJ3, hk3⟩ | ⟨rfl, hJx3⟩)
      · gi_wp2
        go_roundw
        case rel => exact ⟨k + 1, by omega, by go_num, by rw [upB_succ, hM, hX]; exact hJ3, hnx.trans hk3⟩
        case measure => simp [intOf]
      · gi_wp2
        refine bodyPost_ret (results_none rfl _ _ _) rfl ?_
        exact ⟨⟨_, rfl⟩, .inr ⟨_, trivial, hJx3⟩⟩
    · obtain rfl : k = ds.length := by omega
      have hm : ((ds.length : Int) - 1 - (ds.length : Nat)) = -1 := by omega
      rw [hm]
      gi_wp2
      go_end0
      exact ⟨⟨_, rfl⟩, .inl ⟨_, rfl, hJs⟩⟩

theorem back_stops (F : Fence) (n : Nat) (hf : F.fn 110) (hro : F.round = none) (hn : 1 ≤ n) (Bs b : Nat) (oa : Option Addr) (cap : Nat) (ds : List Decl) (hlen : ds.length ≤ 7000000)
    (hoa : 0 < ds.length → oa = some ⟨b, 0, none⟩) (w : World) (hb : b < w.heap.size) (hBl : Bs < w.heap.size) (hBs : w.cell? ⟨Bs, 0, none⟩ = some (.slice oa ds.length cap)) (hc : DeclCells w b ds) :
    SeqStopsK F n Tryz.prog 110 #[.pointer (some ⟨Bs, 0, none⟩)] encD (KpB b Bs) (fun ys => ys = upB ds ds.length) (fun _ => True) ds.length w :=
  fun l J Jx W hW _ _ hY h0 => back1_in F n hf hro hn l Bs b oa cap ds hlen hoa J Jx hY W ((hW.cell (p := ⟨Bs, 0, none⟩) hBl).trans hBs) (hc.kept (hW.block b hb)) h0

theorem Backward_any (oa : Option Addr) (len cap : Nat) (w : World) :
    Calls Tryz.prog 65 #[.slice oa len cap] w fun e w' => e = .returned (.func (.func 110) #[] #[.pointer (some ⟨w.heap.size, 0, none⟩)]) ∧ w' = w.alloc (.cells #[.slice oa len cap] 117) := by
  go_enter Tryz.func65, Tryz.ntmps65
  go_wp2
  go_ret
  exact ⟨rfl, rfl⟩

def declV (d : Decl) : Value := .agg #[.string d.name, .int .i64 d.kind, .int .i64 d.index, .int .i64 d.pos]
/-- the first declaration of that name -/
def tableF (ds : List Decl) (s : ByteArray) : Option Value := (ds.find? fun d => decide (d.name = s)).map declV
def fillF : List IDecl → ByteArray → Option Value := List.foldl (fun F x => Upd F x.2.name (declV x.2)) (fun _ => none)
theorem fillF_snoc (l : List IDecl) (x : IDecl) : fillF (l ++ [x]) = Upd (fillF l) x.2.name (declV x.2) := by simp [fillF]

theorem wpListIn_updateS {F : Fence} {nF : Nat} {P : Program} (w : World) {ops : Array Oper} {rest : List Oper} {o : Oper} {a : Act} {Q : Exit → Act → World → Prop}
    (hg : o.guard = none) (m x v : Operand) (t : TypeId) (hop : o.op = Op.mapUpdate t m x v) (k e : TypeId) (ht : P.underlying t = some (.map k e)) (hk : P.underlying k = some .string) (b : Nat) (G : ByteArray → Option Value)
    (hm : a.eval m = .map (some b)) (hown : MapS w b G) (key : ByteArray) (val : Value) (hx : a.eval x = .string key) (hv : a.eval v = val)
    (hK : ∀ w', MapS w' b (Upd G key val) → w.grownBy w' (some b) → wpListIn F nF P ops Q rest (a.put o.dst undef) w') :
    wpListIn F nF P ops Q (o :: rest) a w := by
  refine wpListIn_plain hg fun K' hK' => ?_
  obtain ⟨w', hrun, r1, r2⟩ := hown.update ht hk key val
  unfold Oper.wpIn
  refine ⟨by simp [Oper.about, hop], ?_⟩
  rw [Oper.semAt_plain F _ _ (by rw [hop]; intro c hc'; cases hc')]
  simp [execOp, hop, hm, hx, hv, hrun, Result.andThen]
  exact hK' _ _ (hK w' r1 r2)

theorem OwnAt.declCells {E : TypeId} {B : Nat} {w : World} {oa : Option Addr} {n cap : Nat} {l : List Decl} (h : OwnAt Decl.cells 4 E B w (.slice oa n cap) l) (t : TypeId) :
    ∃ b, (0 < l.length → oa = some ⟨b, 0, none⟩) ∧ (B ≤ b ∨ b = w.heap.size) ∧ b < (w.alloc (.cells #[.slice oa n cap] t)).heap.size ∧ DeclCells (w.alloc (.cells #[.slice oa n cap] t)) b l := by
  rcases h.2 with ⟨e, hn⟩ | ⟨g, cap', cur, e, hg, hw, h1, h2, h3, h4⟩
  · exact ⟨w.heap.size, fun h => by omega, .inr rfl, by simp, fun m hm => by omega⟩
  · cases e
    have hlt := (Array.getElem?_eq_some_iff.1 hw).1
    refine ⟨g, fun _ => rfl, .inl hg, by simp; omega, DeclCells.kept (W := w) (fun m hm => ?_) (Below.heap_alloc _ _ _ hlt)⟩
    have hc : ∀ j, j < 4 → w.cell? ⟨g, m * 4 + j, none⟩ = (Decl.cells (l.getD m default))[j]? := fun j hj => by
      have := World.ownsRow.cellAt h (m * 4 + j) (by omega)
      rw [flat_get decl_len l m j hm hj] at this
      exact this
    exact ⟨hc 0 (by omega), hc 1 (by omega), hc 2 (by omega), hc 3 (by omega)⟩

set_option maxRecDepth 100000 in
set_option maxHeartbeats 4000000 in
theorem table_any (p : Prog) (v0 v1 v2 v3 v4 v5 : Value) (N : Nat) (w : World) (hp : ProgAt N w v0 v1 v2 v3 v4 v5 p) (hN : N ≤ w.heap.size) :
    Calls Tryz.prog 33 #[.agg #[v0, v1, v2, v3, v4, v5]] w fun e w' => ∃ b, e = .returned (.map (some b)) ∧ w.heap.size ≤ b ∧ MapS w' b (fillF (upB (namesOf p) (namesOf p).length)) ∧ Below w.heap.size w w' := by
  obtain ⟨o0, q0, rfl, _, _, n0⟩ := SliceAt.slice hp.consts
  obtain ⟨o1, q1, rfl, _, _, n1⟩ := SliceAt.slice hp.globals
  obtain ⟨o2, q2, rfl, _, _, n2⟩ := SliceAt.slice hp.sensors
  obtain ⟨o3, q3, rfl, _, _, n3⟩ := SliceAt.slice hp.outputs
  obtain ⟨o4, q4, rfl, _, _, n4⟩ := SliceAt.slice hp.channels
  obtain ⟨o5, q5, rfl, _, _, n5⟩ := hp.tasks.slice
  have hmm := @run_makeMap Tryz.prog
  refine (callsIn_wide (n := 3)).1 ?_
  refine callsIn_of_wp_marks Tryz.func33 rfl trivial ?_ rfl
  simp only [Tryz.ntmps33, List.size_toArray, List.length_cons, List.length_nil, Nat.reduceAdd, Nat.reduceSub, Array.replicate_succ, Array.replicate_zero, List.push_toArray, List.append_toArray, List.nil_append, List.cons_append]
  gi_wp2
  generalize hW0 : ((w.alloc _).alloc (Obj.map #[] 0)).alloc _ = W0
  have hsz : W0.heap.size = w.heap.size + 3 := by rw [← hW0]; simp
  have hB0 : Below w.heap.size w W0 := by rw [← hW0]; exact (((Below.refl _ w).alloc (Nat.le_refl _) _).alloc (by simp) _).alloc (by simp; omega) _
  have bO : Boxed W0 (w.heap.size + 2) 72 (.map (some (w.heap.size + 1))) := by rw [← hW0]; have := Boxed.new ((w.alloc (.cells #[.slice o0 p.consts.length q0, .slice o1 p.globals.length q1, .slice o2 p.sensors.length q2, .slice o3 p.outputs.length q3, .slice o4 p.channels.length q4, .slice o5 p.tasks.length q5] 28)).alloc (Obj.map #[] 0)) 72 (.map (some (w.heap.size + 1))); simpa using this
  have mO : MapS W0 (w.heap.size + 1) (fun _ => none) := by rw [← hW0]; have := (MapS.made (w.alloc (.cells #[.slice o0 p.consts.length q0, .slice o1 p.globals.length q1, .slice o2 p.sensors.length q2, .slice o3 p.outputs.length q3, .slice o4 p.channels.length q4, .slice o5 p.tasks.length q5] 28))); exact (by simpa using this : MapS _ (w.heap.size + 1) _).later ((Below.refl _ _).alloc (Nat.le_refl _) _)
  clear hW0
  refine ⟨trivial, ?_⟩
  refine (callsIn_wide.2 (declarations_any p _ _ _ _ _ _ N W0 (hp.lift (hB0.mono hN)) (by omega))).mono ?_
  rintro e w1 ⟨v, rfl, hO, hB1⟩
  obtain ⟨oa, cap, rfl, _, _⟩ := hO.slice
  gi_wp2
  refine ⟨trivial, ?_⟩
  refine (callsIn_wide.2 (Backward_any _ _ _ w1)).mono ?_
  rintro e w2 ⟨rfl, rfl⟩
  gi_wp2
  obtain ⟨b, hoa, hbB, hbl, hDC⟩ := hO.declCells 117
  have hBs := cell_first (w := w1) (cs := #[.slice oa (namesOf p).length cap]) (t := 117) (i := 0) rfl
  have hB1s := hB1.size
  have hB2 : Below W0.heap.size W0 (w1.alloc (.cells #[.slice oa (namesOf p).length cap] 117)) := hB1.alloc hB1s _
  have hw2 : (w1.alloc (.cells #[.slice oa (namesOf p).length cap] 117)).heap.size = w1.heap.size + 1 := by simp
  have hBw2 : Below w.heap.size w (w1.alloc (.cells #[.slice oa (namesOf p).length cap] 117)) := hB0.trans (hB2.mono hB0.size)
  have bO2 : Boxed (w1.alloc (.cells #[.slice oa (namesOf p).length cap] 117)) (w.heap.size + 2) 72 (.map (some (w.heap.size + 1))) := (hB2.block _ (by omega)).trans bO
  have mO2 := mO.later hB2
  have hnl : (namesOf p).length ≤ 7000000 := by unfold namesOf; simp; omega
  have hbne : b ≠ w.heap.size + 1 := by rcases hbB with h | h <;> omega
  generalize hW2 : w1.alloc (.cells #[.slice oa (namesOf p).length cap] 117) = W2 at *
  clear hW2
  refine wpIn_rangeFunc_ownH rfl (by omega) (gf := 110) (lb := #[.pointer (some ⟨w1.heap.size, 0, none⟩)]) rfl trivial (enters_of Tryz.func110 (by kernel_rfl) rfl)
    (back_stops Fence.wide (3 - 1) trivial rfl (by omega) w1.heap.size b oa cap (namesOf p) hnl hoa W2 hbl (by omega) hBs hDC) KpB.trans
    (fun W l o o' hl ho _ _ => ⟨World.putObj_heap_other (by omega), World.putObj_heap_other (by omega)⟩) (Below.refl _ _) (fun _ => rfl)
    (fun pre W => (Boxed W (w.heap.size + 2) 72 (.map (some (w.heap.size + 1))) ∧ MapS W (w.heap.size + 1) (fillF pre)) ∧ (Below w.heap.size w W ∧ W2.heap.size ≤ W.heap.size))
    (fun _ _ _ => False)
    (OwnFrom.and (OwnFrom.and (Own.from (boxed_own _ _ _) _) (fun s A B row hs hg hr => hs.kept (hg.block _ hs.lt (fun e => by have := (hr _ e.symm).1; omega)))) (OwnFrom.and (ownFrom_below (Nat.le_refl _) (by omega)) (fun s A B row hs hg hr => Nat.le_trans hs hg.size)))
    (fun _ _ _ _ _ hs _ _ => hs)
    ⟨⟨bO2, mO2⟩, hBw2, Nat.le_refl _⟩
    (fun x a' W => ∃ Bx, W.heap[Bx]? = some (.cells #[.string x.2.name, .int .i64 x.2.kind, .int .i64 x.2.index, .int .i64 x.2.pos] 86) ∧ a' = { tmps := #[.agg #[.slice o0 p.consts.length q0, .slice o1 p.globals.length q1, .slice o2 p.sensors.length q2, .slice o3 p.outputs.length q3, .slice o4 p.channels.length q4, .slice o5 p.tasks.length q5], .pointer (some ⟨w.heap.size, 0, none⟩), .map none, .pointer (some ⟨w.heap.size + 1 + 1, 0, none⟩), undef, .pointer (some ⟨Bx, 0, none⟩), .map (some (w.heap.size + 1)), .agg #[.slice o0 p.consts.length q0, .slice o1 p.globals.length q1, .slice o2 p.sensors.length q2, .slice o3 p.outputs.length q3, .slice o4 p.channels.length q4, .slice o5 p.tasks.length q5], .slice oa (namesOf p).length cap, .func (.func 110) #[] #[.pointer (some ⟨w1.heap.size, 0, none⟩)], .int .i64 (x.1 : Int), .agg #[.string x.2.name, .int .i64 x.2.kind, .int .i64 x.2.index, .int .i64 x.2.pos], undef, undef, undef, undef, undef], defers := [] })
    (fun x a' _ X Y row hs hg hr => by
      obtain ⟨Bx, h1, h2⟩ := hs
      refine ⟨Bx, (hg.block Bx (Array.getElem?_eq_some_iff.1 h1).1 (fun e => ?_)).trans h1, h2⟩
      obtain ⟨_, o, ho, hoc⟩ := hr Bx e.symm
      rw [h1] at ho; cases ho; cases hoc)
    ?assign ?body ?done ?stop
  case assign =>
    rintro l pre x W K ⟨⟨b1, m1⟩, hB, hZ⟩ hK
    simp only [encD]
    gi_wp2
    exact hK _ _ ((KeepsOthers.alloc _ _).from _) ⟨Below.heap_alloc _ _ _ (by omega), Below.heap_alloc _ _ _ (by omega)⟩ ⟨⟨b1.alloc _, m1.later ((Below.refl _ _).alloc (Nat.le_refl _) _)⟩, hB.alloc hB.size _, by simp; omega⟩ ⟨W.heap.size, World.alloc_heap_new W _, rfl⟩
  case body =>
    rintro l pre x a' W hl ⟨r, hr⟩ ⟨⟨b1, m1⟩, hB, hZ⟩ ⟨Bx, hX, rfl⟩ hlt
    have cO := b1.cell
    have x0 : W.cell? ⟨Bx, 0, none⟩ = some (.string x.2.name) := by simp [World.cell?, hX]
    have x1 : W.cell? ⟨Bx, 1, none⟩ = some (.int .i64 x.2.kind) := by simp [World.cell?, hX]
    have x2 : W.cell? ⟨Bx, 2, none⟩ = some (.int .i64 x.2.index) := by simp [World.cell?, hX]
    have x3 : W.cell? ⟨Bx, 3, none⟩ = some (.int .i64 x.2.pos) := by simp [World.cell?, hX]
    gi_wp2_with (gi_at_mapUpdate; refine wpListIn_updateS _ rfl _ _ _ 72 rfl 9 86 Tryz.underlying72 Tryz.underlying9 (w.heap.size + 1) _ rfl m1 _ _ rfl rfl ?_; intro w3 m3 hg3)
    have hlm := m1.lt
    exact ⟨KeepsFrom.of_grownBy hg3 (fun j e => by cases e; omega), ⟨hg3.block _ (by omega) (fun e => hbne (by cases e; rfl)), hg3.block _ (by omega) (fun e => by have := Option.some.inj e; omega)⟩, ⟨⟨b1.kept hg3 (fun e => by have := Option.some.inj e; omega), by rw [fillF_snoc]; exact m3⟩, hB.grown hg3 hB.size (fun k e => by cases e; omega), Nat.le_trans hZ hg3.size⟩⟩
  case done =>
    rintro D ys W hD rfl ⟨⟨b1, m1⟩, hB, hZ⟩ hK
    have cO := b1.cell
    gi_wp2
    refine ⟨by simp, .inl ⟨_, _, rfl, run_takeDeferred hK, ?_⟩⟩
    exact ⟨_, results_tmp rfl _ _ _, _, rfl, by omega, m1.kept (World.putObj_heap_other (by omega)), hB.trans (belowK_b (w := w) (Nat.le_refl _) W D _ _ (by omega) hK rfl rfl)⟩
  case stop =>
    rintro D c pre W _ _ h _
    exact h.elim
end Go.Proofs.YtkfdnlfkomhmfaaGreatDoor
