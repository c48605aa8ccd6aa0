/- slices.IndexFunc, slices.ContainsFunc at the program's own types, at whatever predicate that only makes memory. -/
import Derived.Test.YtkfdnlfkomhmfaaGreatDoorOwn
import Derived.Test.YtkfdnlfkomhmfaaGreatDoorLater
namespace Go.Proofs.YtkfdnlfkomhmfaaGreatDoor
open Go.RowKit
set_option linter.unusedVariables false

def Found {α : Type} (l : List α) (p : α → Bool) (w : World) (e : Ending) (w' : World) : Prop := ∃ i : Int, e = .returned (.int .i64 i) ∧ Below w.heap.size w w' ∧ -1 ≤ i ∧ i ≤ 1048576 ∧ (0 ≤ i ↔ l.any p = true)

def PredE (g : Nat) (cp : Array Value) (N : Nat) (W0 : World) (l : List Expr) (p : Expr → Bool) : Prop :=
  ∀ (x : Expr) (va : Value) (W : World), x ∈ l → x.Wf → Below W0.heap.size W0 W → ExprsAt N W va x.args → Calls Tryz.prog g (#[.agg #[.int .i64 x.kind, .string x.name, .int .i16 x.value, .int .i64 x.op, va, .int .i64 x.pos]] ++ cp) W fun e w' => e = .returned (.bool (p x)) ∧ Below W.heap.size W w'

theorem IndexFuncE_any (g : Nat) (cp : Array Value) (eg : ∀ args w, (callFunc g args).run Tryz.prog w = .ok (.enter g args) w) (N : Nat) (v : Value) (l : List Expr) (p : Expr → Bool) (w : World)
    (hs : ExprsAt N w v l) (hN : N ≤ w.heap.size) (hp : PredE g cp N w l p) :
    Calls Tryz.prog 166 #[v, .func (.func g) #[] cp] w (Found l p w) := by
  obtain ⟨oa, cap, rfl, h1, h2, h3⟩ := hs.slice
  go_enter Tryz.func166, Tryz.ntmps166
  go_wp2_with fail
  go_loopw [8] (fun i wr => ∃ k : Nat, k ≤ l.length ∧ i = .int .i64 k ∧ (∀ j : Nat, j < k → ∀ x, l[j]? = some x → p x = false) ∧ Below w.heap.size w wr) (fun i _ => l.length - (intOf i).toNat)
  case atStart => exact ⟨0, Nat.zero_le _, rfl, fun j hj => by omega, Below.refl _ _⟩
  case round =>
    obtain ⟨k, hk, rfl, hno, hB⟩ := hrel
    have HN := Lib.hid hno
    have HP := Lib.hid hp
    clear hno
    by_cases hlt : k < l.length
    · obtain ⟨x, b, off, va, hx, rfl, hb, hwf, hsub, c0, c1, c2, c3, c4, c5⟩ := ExprsAt.at (hs.lift (hB.mono hN)) hlt
      obtain ⟨_, _, rfl, _, _, _⟩ := hsub.slice
      have hc := HP.out x _ wr (List.mem_of_getElem? hx) hwf hB hsub
      have HX := Lib.hid hx
      clear hx
      cases hb : p x
      · rw [hb] at hc
        have HC := Lib.hid hc
        have HPX := Lib.hid hb
        clear hc hb
        go_wp2_with (refine HC.out.mono ?_; rintro e w1 ⟨rfl, hB1⟩)
        go_roundw
        case rel =>
          refine ⟨k + 1, by omega, by go_num, fun j hj y hy => ?_, hB.trans (hB1.mono hB.size)⟩
          by_cases e : j = k
          · subst e; rw [HX.out] at hy; cases hy; exact HPX.out
          · exact HN.out j (by omega) y hy
        case measure => simp [intOf]; omega
      · rw [hb] at hc
        have HC := Lib.hid hc
        have HPX := Lib.hid hb
        clear hc hb
        go_wp2_with (refine HC.out.mono ?_; rintro e w1 ⟨rfl, hB1⟩)
        go_ret
        refine ⟨k, rfl, hB.trans (hB1.mono hB.size), by omega, by omega, ⟨fun _ => List.any_eq_true.2 ⟨x, List.mem_of_getElem? HX.out, HPX.out⟩, fun _ => by omega⟩⟩
    · have : k = l.length := by omega
      subst this
      go_wp2_with fail
      go_ret
      refine ⟨-1, rfl, hB, by omega, by omega, ⟨fun h => by omega, fun h => ?_⟩⟩
      obtain ⟨x, hx, hpx⟩ := List.any_eq_true.1 h
      obtain ⟨j, hj⟩ := List.getElem?_of_mem hx
      rw [HN.out j (List.getElem?_eq_some_iff.1 hj).1 x hj] at hpx
      cases hpx
theorem ContainsFuncE_any (g : Nat) (cp : Array Value) (eg : ∀ args w, (callFunc g args).run Tryz.prog w = .ok (.enter g args) w) (N : Nat) (v : Value) (l : List Expr) (p : Expr → Bool) (w : World)
    (hs : ExprsAt N w v l) (hN : N ≤ w.heap.size) (hp : PredE g cp N w l p) :
    Calls Tryz.prog 142 #[v, .func (.func g) #[] cp] w fun e w' => e = .returned (.bool (l.any p)) ∧ Below w.heap.size w w' := by
  have hc := Lib.hid (IndexFuncE_any g cp eg N v l p w hs hN hp)
  clear hs hp
  go_enter Tryz.func142, Tryz.ntmps142
  go_wp2_with (go_at_call 166; refine hc.out.mono ?_; rintro e w' ⟨i, rfl, hB, h1, h2, h3⟩; have H3 := Lib.hid h3; clear h1 h2 h3)
  go_ret
  refine ⟨ret_bool ?_, hB⟩
  cases ha : l.any p
  · have h0 : i < 0 := by
      rcases Int.lt_or_le i 0 with h | h
      · exact h
      · have := H3.out.1 h; rw [ha] at this; cases this
    exact decide_eq_false (by omega)
  · exact decide_eq_true (H3.out.2 ha)

def PredS (g : Nat) (cp : Array Value) (N : Nat) (W0 : World) (l : List Stmt) (p : Stmt → Bool) : Prop :=
  ∀ (x : Stmt) (va vb ve : Value) (W : World), x ∈ l → x.Wf → Below W0.heap.size W0 W → ExprsAt N W va x.args → StmtsAt N W vb x.body → StmtsAt N W ve x.els → Calls Tryz.prog g (#[.agg #[.int .i64 x.kind, .string x.name, .int .i64 x.n, va, vb, ve, .int .i64 x.pos]] ++ cp) W fun e w' => e = .returned (.bool (p x)) ∧ Below W.heap.size W w'

theorem IndexFuncS_any (g : Nat) (cp : Array Value) (eg : ∀ args w, (callFunc g args).run Tryz.prog w = .ok (.enter g args) w) (N : Nat) (v : Value) (l : List Stmt) (p : Stmt → Bool) (w : World)
    (hs : StmtsAt N w v l) (hN : N ≤ w.heap.size) (hp : PredS g cp N w l p) :
    Calls Tryz.prog 165 #[v, .func (.func g) #[] cp] w (Found l p w) := by
  obtain ⟨oa, cap, rfl, h1, h2, h3⟩ := hs.slice
  go_enter Tryz.func165, Tryz.ntmps165
  go_wp2_with fail
  go_loopw [8] (fun i wr => ∃ k : Nat, k ≤ l.length ∧ i = .int .i64 k ∧ (∀ j : Nat, j < k → ∀ x, l[j]? = some x → p x = false) ∧ Below w.heap.size w wr) (fun i _ => l.length - (intOf i).toNat)
  case atStart => exact ⟨0, Nat.zero_le _, rfl, fun j hj => by omega, Below.refl _ _⟩
  case round =>
    obtain ⟨k, hk, rfl, hno, hB⟩ := hrel
    have HN := Lib.hid hno
    have HP := Lib.hid hp
    clear hno
    by_cases hlt : k < l.length
    · obtain ⟨x, b, off, va, vb, ve, hx, rfl, hb, hwf, h1s, h2s, h3s, c0, c1, c2, c3, c4, c5, c6⟩ := StmtsAt.at (hs.lift (hB.mono hN)) hlt
      obtain ⟨_, _, rfl, _, _, _⟩ := h1s.slice
      obtain ⟨_, _, rfl, _, _, _⟩ := h2s.slice
      obtain ⟨_, _, rfl, _, _, _⟩ := h3s.slice
      have hc := HP.out x _ _ _ wr (List.mem_of_getElem? hx) hwf hB h1s h2s h3s
      have HX := Lib.hid hx
      clear hx
      cases hb : p x
      · rw [hb] at hc
        have HC := Lib.hid hc
        have HPX := Lib.hid hb
        clear hc hb
        go_wp2_with (refine HC.out.mono ?_; rintro e w1 ⟨rfl, hB1⟩)
        go_roundw
        case rel =>
          refine ⟨k + 1, by omega, by go_num, fun j hj y hy => ?_, hB.trans (hB1.mono hB.size)⟩
          by_cases e : j = k
          · subst e; rw [HX.out] at hy; cases hy; exact HPX.out
          · exact HN.out j (by omega) y hy
        case measure => simp [intOf]; omega
      · rw [hb] at hc
        have HC := Lib.hid hc
        have HPX := Lib.hid hb
        clear hc hb
        go_wp2_with (refine HC.out.mono ?_; rintro e w1 ⟨rfl, hB1⟩)
        go_ret
        refine ⟨k, rfl, hB.trans (hB1.mono hB.size), by omega, by omega, ⟨fun _ => List.any_eq_true.2 ⟨x, List.mem_of_getElem? HX.out, HPX.out⟩, fun _ => by omega⟩⟩
    · have : k = l.length := by omega
      subst this
      go_wp2_with fail
      go_ret
      refine ⟨-1, rfl, hB, by omega, by omega, ⟨fun h => by omega, fun h => ?_⟩⟩
      obtain ⟨x, hx, hpx⟩ := List.any_eq_true.1 h
      obtain ⟨j, hj⟩ := List.getElem?_of_mem hx
      rw [HN.out j (List.getElem?_eq_some_iff.1 hj).1 x hj] at hpx
      cases hpx
theorem ContainsFuncS_any (g : Nat) (cp : Array Value) (eg : ∀ args w, (callFunc g args).run Tryz.prog w = .ok (.enter g args) w) (N : Nat) (v : Value) (l : List Stmt) (p : Stmt → Bool) (w : World)
    (hs : StmtsAt N w v l) (hN : N ≤ w.heap.size) (hp : PredS g cp N w l p) :
    Calls Tryz.prog 140 #[v, .func (.func g) #[] cp] w fun e w' => e = .returned (.bool (l.any p)) ∧ Below w.heap.size w w' := by
  have hc := Lib.hid (IndexFuncS_any g cp eg N v l p w hs hN hp)
  clear hs hp
  go_enter Tryz.func140, Tryz.ntmps140
  go_wp2_with (go_at_call 165; refine hc.out.mono ?_; rintro e w' ⟨i, rfl, hB, h1, h2, h3⟩; have H3 := Lib.hid h3; clear h1 h2 h3)
  go_ret
  refine ⟨ret_bool ?_, hB⟩
  cases ha : l.any p
  · have h0 : i < 0 := by
      rcases Int.lt_or_le i 0 with h | h
      · exact h
      · have := H3.out.1 h; rw [ha] at this; cases this
    exact decide_eq_false (by omega)
  · exact decide_eq_true (H3.out.2 ha)

def PredT (g : Nat) (cp : Array Value) (N : Nat) (W0 : World) (l : List Task) (p : Task → Bool) : Prop :=
  ∀ (x : Task) (vb : Value) (W : World), x ∈ l → x.Wf → Below W0.heap.size W0 W → StmtsAt N W vb x.body → Calls Tryz.prog g (#[.agg #[.string x.name, .int .i64 x.period, .int .i64 x.deadline, .string x.channel, .string x.param, .int .i64 x.within, vb, .int .i64 x.pos]] ++ cp) W fun e w' => e = .returned (.bool (p x)) ∧ Below W.heap.size W w'

theorem IndexFuncT_any (g : Nat) (cp : Array Value) (eg : ∀ args w, (callFunc g args).run Tryz.prog w = .ok (.enter g args) w) (N : Nat) (v : Value) (l : List Task) (p : Task → Bool) (w : World)
    (hs : TasksAt N w v l) (hN : N ≤ w.heap.size) (hp : PredT g cp N w l p) :
    Calls Tryz.prog 108 #[v, .func (.func g) #[] cp] w (Found l p w) := by
  obtain ⟨oa, cap, rfl, h1, h2, h3⟩ := hs.slice
  go_enter Tryz.func108, Tryz.ntmps108
  go_wp2_with fail
  go_loopw [8] (fun i wr => ∃ k : Nat, k ≤ l.length ∧ i = .int .i64 k ∧ (∀ j : Nat, j < k → ∀ x, l[j]? = some x → p x = false) ∧ Below w.heap.size w wr) (fun i _ => l.length - (intOf i).toNat)
  case atStart => exact ⟨0, Nat.zero_le _, rfl, fun j hj => by omega, Below.refl _ _⟩
  case round =>
    obtain ⟨k, hk, rfl, hno, hB⟩ := hrel
    have HN := Lib.hid hno
    have HP := Lib.hid hp
    clear hno
    by_cases hlt : k < l.length
    · obtain ⟨x, b, off, vb, hx, rfl, hb, hwf, h2s, c0, c1, c2, c3, c4, c5, c6, c7⟩ := TasksAt.at (hs.lift (hB.mono hN)) hlt
      obtain ⟨_, _, rfl, _, _, _⟩ := h2s.slice
      have hc := HP.out x _ wr (List.mem_of_getElem? hx) hwf hB h2s
      have HX := Lib.hid hx
      clear hx
      cases hb : p x
      · rw [hb] at hc
        have HC := Lib.hid hc
        have HPX := Lib.hid hb
        clear hc hb
        go_wp2_with (refine HC.out.mono ?_; rintro e w1 ⟨rfl, hB1⟩)
        go_roundw
        case rel =>
          refine ⟨k + 1, by omega, by go_num, fun j hj y hy => ?_, hB.trans (hB1.mono hB.size)⟩
          by_cases e : j = k
          · subst e; rw [HX.out] at hy; cases hy; exact HPX.out
          · exact HN.out j (by omega) y hy
        case measure => simp [intOf]; omega
      · rw [hb] at hc
        have HC := Lib.hid hc
        have HPX := Lib.hid hb
        clear hc hb
        go_wp2_with (refine HC.out.mono ?_; rintro e w1 ⟨rfl, hB1⟩)
        go_ret
        refine ⟨k, rfl, hB.trans (hB1.mono hB.size), by omega, by omega, ⟨fun _ => List.any_eq_true.2 ⟨x, List.mem_of_getElem? HX.out, HPX.out⟩, fun _ => by omega⟩⟩
    · have : k = l.length := by omega
      subst this
      go_wp2_with fail
      go_ret
      refine ⟨-1, rfl, hB, by omega, by omega, ⟨fun h => by omega, fun h => ?_⟩⟩
      obtain ⟨x, hx, hpx⟩ := List.any_eq_true.1 h
      obtain ⟨j, hj⟩ := List.getElem?_of_mem hx
      rw [HN.out j (List.getElem?_eq_some_iff.1 hj).1 x hj] at hpx
      cases hpx
theorem ContainsFuncT_any (g : Nat) (cp : Array Value) (eg : ∀ args w, (callFunc g args).run Tryz.prog w = .ok (.enter g args) w) (N : Nat) (v : Value) (l : List Task) (p : Task → Bool) (w : World)
    (hs : TasksAt N w v l) (hN : N ≤ w.heap.size) (hp : PredT g cp N w l p) :
    Calls Tryz.prog 62 #[v, .func (.func g) #[] cp] w fun e w' => e = .returned (.bool (l.any p)) ∧ Below w.heap.size w w' := by
  have hc := Lib.hid (IndexFuncT_any g cp eg N v l p w hs hN hp)
  clear hs hp
  go_enter Tryz.func62, Tryz.ntmps62
  go_wp2_with (go_at_call 108; refine hc.out.mono ?_; rintro e w' ⟨i, rfl, hB, h1, h2, h3⟩; have H3 := Lib.hid h3; clear h1 h2 h3)
  go_ret
  refine ⟨ret_bool ?_, hB⟩
  cases ha : l.any p
  · have h0 : i < 0 := by
      rcases Int.lt_or_le i 0 with h | h
      · exact h
      · have := H3.out.1 h; rw [ha] at this; cases this
    exact decide_eq_false (by omega)
  · exact decide_eq_true (H3.out.2 ha)

def PredH (g : Nat) (cp : Array Value) (N : Nat) (W0 : World) (l : List Chan) (p : Chan → Bool) : Prop :=
  ∀ (x : Chan) (W : World), x ∈ l → Below W0.heap.size W0 W →  Calls Tryz.prog g (#[.agg #[.string x.name, .int .i64 x.cap, .int .i64 x.pos]] ++ cp) W fun e w' => e = .returned (.bool (p x)) ∧ Below W.heap.size W w'

theorem IndexFuncH_any (g : Nat) (cp : Array Value) (eg : ∀ args w, (callFunc g args).run Tryz.prog w = .ok (.enter g args) w) (N : Nat) (v : Value) (l : List Chan) (p : Chan → Bool) (w : World)
    (hs : ChansAt N w v l) (hN : N ≤ w.heap.size) (hp : PredH g cp N w l p) :
    Calls Tryz.prog 112 #[v, .func (.func g) #[] cp] w (Found l p w) := by
  obtain ⟨oa, cap, rfl, h1, h2, h3⟩ := SliceAt.slice hs
  go_enter Tryz.func112, Tryz.ntmps112
  go_wp2_with fail
  go_loopw [8] (fun i wr => ∃ k : Nat, k ≤ l.length ∧ i = .int .i64 k ∧ (∀ j : Nat, j < k → ∀ x, l[j]? = some x → p x = false) ∧ Below w.heap.size w wr) (fun i _ => l.length - (intOf i).toNat)
  case atStart => exact ⟨0, Nat.zero_le _, rfl, fun j hj => by omega, Below.refl _ _⟩
  case round =>
    obtain ⟨k, hk, rfl, hno, hB⟩ := hrel
    have HN := Lib.hid hno
    have HP := Lib.hid hp
    clear hno
    by_cases hlt : k < l.length
    · obtain ⟨x, b, off, hx, rfl, hb, c0, c1, c2⟩ := ChansAt.at (SliceAt.lift hs (hB.mono hN)) hlt
      
      have hc := HP.out x wr (List.mem_of_getElem? hx) hB 
      have HX := Lib.hid hx
      clear hx
      cases hb : p x
      · rw [hb] at hc
        have HC := Lib.hid hc
        have HPX := Lib.hid hb
        clear hc hb
        go_wp2_with (refine HC.out.mono ?_; rintro e w1 ⟨rfl, hB1⟩)
        go_roundw
        case rel =>
          refine ⟨k + 1, by omega, by go_num, fun j hj y hy => ?_, hB.trans (hB1.mono hB.size)⟩
          by_cases e : j = k
          · subst e; rw [HX.out] at hy; cases hy; exact HPX.out
          · exact HN.out j (by omega) y hy
        case measure => simp [intOf]; omega
      · rw [hb] at hc
        have HC := Lib.hid hc
        have HPX := Lib.hid hb
        clear hc hb
        go_wp2_with (refine HC.out.mono ?_; rintro e w1 ⟨rfl, hB1⟩)
        go_ret
        refine ⟨k, rfl, hB.trans (hB1.mono hB.size), by omega, by omega, ⟨fun _ => List.any_eq_true.2 ⟨x, List.mem_of_getElem? HX.out, HPX.out⟩, fun _ => by omega⟩⟩
    · have : k = l.length := by omega
      subst this
      go_wp2_with fail
      go_ret
      refine ⟨-1, rfl, hB, by omega, by omega, ⟨fun h => by omega, fun h => ?_⟩⟩
      obtain ⟨x, hx, hpx⟩ := List.any_eq_true.1 h
      obtain ⟨j, hj⟩ := List.getElem?_of_mem hx
      rw [HN.out j (List.getElem?_eq_some_iff.1 hj).1 x hj] at hpx
      cases hpx
theorem ContainsFuncH_any (g : Nat) (cp : Array Value) (eg : ∀ args w, (callFunc g args).run Tryz.prog w = .ok (.enter g args) w) (N : Nat) (v : Value) (l : List Chan) (p : Chan → Bool) (w : World)
    (hs : ChansAt N w v l) (hN : N ≤ w.heap.size) (hp : PredH g cp N w l p) :
    Calls Tryz.prog 74 #[v, .func (.func g) #[] cp] w fun e w' => e = .returned (.bool (l.any p)) ∧ Below w.heap.size w w' := by
  have hc := Lib.hid (IndexFuncH_any g cp eg N v l p w hs hN hp)
  clear hs hp
  go_enter Tryz.func74, Tryz.ntmps74
  go_wp2_with (go_at_call 112; refine hc.out.mono ?_; rintro e w' ⟨i, rfl, hB, h1, h2, h3⟩; have H3 := Lib.hid h3; clear h1 h2 h3)
  go_ret
  refine ⟨ret_bool ?_, hB⟩
  cases ha : l.any p
  · have h0 : i < 0 := by
      rcases Int.lt_or_le i 0 with h | h
      · exact h
      · have := H3.out.1 h; rw [ha] at this; cases this
    exact decide_eq_false (by omega)
  · exact decide_eq_true (H3.out.2 ha)
end Go.Proofs.YtkfdnlfkomhmfaaGreatDoor
