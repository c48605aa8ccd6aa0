/- The reference's add, Union, Same: lists of indices. A region that draws its order and whose operations hand back what hangs on the order (a block that a call has made): each operation by what its result answers to. The reference's named, inExpr. The reference's used, Writes. -/
import Derived.Test.YtkfdnlfkomhmfaaGreatDoorOwn
import Derived.Test.YtkfdnlfkomhmfaaGreatDoorExprs
import Derived.Test.YtkfdnlfkomhmfaaGreatDoorLater
import Derived.BigQuiet
import Derived.Test.YtkfdnlfkomhmfaaGreatDoorSize
import Derived.Test.YtkfdnlfkomhmfaaGreatDoorOpen
import Derived.Test.YtkfdnlfkomhmfaaGreatDoorProg
import Derived.Tactics
import Derived.Test.YtkfdnlfkomhmfaaGreatDoorLookR
import Derived.Test.YtkfdnlfkomhmfaaGreatDoorBlk
import Derived.Test.YtkfdnlfkomhmfaaGreatDoorConstV
namespace Go.Proofs.YtkfdnlfkomhmfaaGreatDoor
open Go.RowKit
set_option linter.unusedVariables false
set_option linter.unusedSimpArgs false

theorem below_drw {B : Nat} {w W : World} (h : Below B w W) (n : Nat) : Below B w (W.drewN n) := ⟨h.os, h.tape, h.output, h.size, h.block⟩
abbrev Row (B : Nat) (w : World) (v : Value) (l : List Int) : Prop := OwnAt intCells 1 3 B w v l
theorem infoInt : (Tryz.prog.info? 3).map (fun i => (i.zero, i.size, i.bytes)) = some (some (.int .i64 0), 1, 8) := by kernel_rfl
theorem Row.at {B : Nat} {w : World} {oa : Option Addr} {n cap : Nat} {l : List Int} (h : Row B w (.slice oa n cap) l) {k : Nat} (hk : k < l.length) :
    ∃ x b, l[k]? = some x ∧ oa = some ⟨b, 0, none⟩ ∧ b < w.heap.size ∧ w.cell? ⟨b, k, none⟩ = some (.int .i64 x) := by
  have hh := h
  rcases h.2 with ⟨e, hn⟩ | ⟨g, cap', cur, e, hg, hw, h1, h2, h3, h4⟩
  · omega
  · cases e
    refine ⟨l.getD k default, g, getD_some hk, rfl, (Array.getElem?_eq_some_iff.1 hw).1, ?_⟩
    have hcell := World.ownsRow.cellAt hh k (by omega)
    have := flat_get (f := intCells) int_len l k 0 hk (by omega)
    rw [Nat.mul_one, Nat.add_zero] at this
    rw [this] at hcell
    exact hcell

theorem any_snoc {n x : Int} {l : List Int} {k : Nat} (h : l[k]? = some x) : (l.take (k + 1)).any (fun x => decide (n < x)) = ((l.take k).any (fun x => decide (n < x)) || decide (n < x)) := by
  rw [take_snoc h]; simp
theorem nin_snoc {n x : Int} {l : List Int} {k : Nat} (h : l[k]? = some x) (hn : n ∉ l.take k) (hx : ¬ x = n) : n ∉ l.take (k + 1) := by
  rw [take_snoc h]; simp only [List.mem_append, List.mem_singleton, not_or]; exact ⟨hn, fun e => hx e.symm⟩

set_option maxRecDepth 100000 in
set_option maxHeartbeats 4000000 in
theorem radd_any (l : List Int) (n : Int) (B : Nat) (v : Value) (w : World) (hO : Row B w v l) (hB : B ≤ w.heap.size) (hl : l.length ≤ 1048576) :
    Calls Tryz.prog 57 #[v, .int .i64 n] w fun e w' => (∃ v', e = .returned v' ∧ Row B w' v' (addR l n)) ∧ Below w.heap.size w w' := by
  obtain ⟨oa, cap, rfl, hc1, hc2⟩ := hO.slice
  go_enter Tryz.func57, Tryz.ntmps57
  go_wp2_with fail
  go_loopw [5, 6, 11] (fun vo vp i wr => ∃ (k : Nat) (ol : List Int), k ≤ l.length ∧ i = .int .i64 k ∧ vp = .bool ((l.take k).any fun x => decide (n < x)) ∧ ol = (if (l.take k).any (fun x => decide (n < x)) then insR n (l.take k) else l.take k) ∧
      n ∉ l.take k ∧ Row w.heap.size wr vo ol ∧ Below w.heap.size w wr) (fun _ _ i _ => l.length - (intOf i).toNat)
  case atStart => exact ⟨0, [], Nat.zero_le _, rfl, rfl, rfl, by simp, OwnAt.nil _ _ _ _ _, Below.refl _ _⟩
  case round =>
    obtain ⟨k, ol, hk, rfl, rfl, hol, hn, hOo, hBr⟩ := hrel
    rename World => wr
    obtain ⟨ov, cv, rfl, _, _⟩ := hOo.slice
    have hoL : ol.length ≤ k + 1 := by rw [hol]; split <;> simp [insR_len] <;> omega
    have hOr := hO.later hBr
    have hwr := hBr.size
    have HOL := Lib.hid hol
    have HN := Lib.hid hn
    clear hol hn
    by_cases hlt : k < l.length
    · obtain ⟨x, b, hx, rfl, hb, c0⟩ := Row.at hOr hlt
      have HX := Lib.hid hx
      clear hx
      by_cases hxn : x = n
      · have t1 : (x == n) = true := beq_iff_eq.2 hxn
        have HXN := Lib.hid hxn
        clear hxn
        go_wp2_with fail
        go_ret
        refine ⟨⟨_, rfl, ?_⟩, hBr⟩
        have : addR l n = l := by unfold addR; rw [if_pos]; rw [← HXN.out]; exact List.mem_of_getElem? HX.out
        rw [this]; exact hOr
      · have t1 : (x == n) = false := beq_eq_false_iff_ne.2 hxn
        have HXN := Lib.hid hxn
        clear hxn
        have HA := Lib.hid (any_snoc (n := n) HX.out)
        cases hp : (l.take k).any fun x => decide (n < x)
        · rw [hp] at HOL HA
          by_cases hgt : n < x
          · have t2 : decide (x > n) = true := decide_eq_true hgt
            have HG := Lib.hid hgt
            clear hgt
            go_wp2_with (first
              | (refine append1 rfl _ _ 56 rfl 3 Tryz.underlying56 infoInt rfl (by decide) (by decide) int_len int_one hOo n rfl rfl rfl rfl (by omega) (by omega) ?_; intro v1 w1 hO1 hg1 _ _; have hB1 := OwnAt.below hOo hg1 hwr; obtain ⟨ov1, cv1, rfl, _, _⟩ := hO1.slice; rw [show (ol ++ [n]).length = ol.length + 1 by simp] at hO1 ⊢)
              | (refine append1 rfl _ _ 56 rfl 3 Tryz.underlying56 infoInt rfl (by decide) (by decide) int_len int_one hO1 x rfl rfl rfl rfl (by simp; omega) (by have := hg1.size; omega) ?_; intro v2 w2 hO2 hg2 _ _; have hB2 := OwnAt.below hO1 hg2 (by have := hg1.size; omega)))
            go_roundw
            case rel =>
              have ht : (l.take (k + 1)).any (fun x => decide (n < x)) = true := by rw [HA.out]; simp [HG.out]
              refine ⟨k + 1, _, by omega, by go_num, by rw [ht], rfl, nin_snoc HX.out HN.out HXN.out, ?_, hBr.trans (hB1.trans hB2)⟩
              rw [ht, if_pos rfl, take_snoc HX.out, insR_here hp HG.out]
              have := HOL.out
              rw [if_neg (by decide)] at this
              rw [← this]
              exact hO2
            case measure => simp [intOf]; omega
          · have t2 : decide (x > n) = false := decide_eq_false hgt
            have HG := Lib.hid hgt
            clear hgt
            go_wp2_with (refine append1 rfl _ _ 56 rfl 3 Tryz.underlying56 infoInt rfl (by decide) (by decide) int_len int_one hOo x rfl rfl rfl rfl (by omega) (by omega) ?_; intro v1 w1 hO1 hg1 _ _; have hB1 := OwnAt.below hOo hg1 hwr; obtain ⟨ov1, cv1, rfl, _, _⟩ := hO1.slice; rw [show (ol ++ [x]).length = ol.length + 1 by simp] at hO1 ⊢)
            go_roundw
            case rel =>
              have ht : (l.take (k + 1)).any (fun x => decide (n < x)) = false := by rw [HA.out]; simp [HG.out]
              refine ⟨k + 1, _, by omega, by go_num, by rw [ht], rfl, nin_snoc HX.out HN.out HXN.out, ?_, hBr.trans hB1⟩
              rw [ht, if_neg (by decide), take_snoc HX.out]
              have := HOL.out
              rw [if_neg (by decide)] at this
              rw [← this]
              exact hO1
            case measure => simp [intOf]; omega
        · rw [hp] at HOL HA
          have HP := Lib.hid hp
          clear hp
          go_wp2_with (refine append1 rfl _ _ 56 rfl 3 Tryz.underlying56 infoInt rfl (by decide) (by decide) int_len int_one hOo x rfl rfl rfl rfl (by omega) (by omega) ?_; intro v1 w1 hO1 hg1 _ _; have hB1 := OwnAt.below hOo hg1 hwr; obtain ⟨ov1, cv1, rfl, _, _⟩ := hO1.slice; rw [show (ol ++ [x]).length = ol.length + 1 by simp] at hO1 ⊢)
          go_roundw
          case rel =>
            have ht : (l.take (k + 1)).any (fun x => decide (n < x)) = true := by rw [HA.out]; rfl
            refine ⟨k + 1, _, by omega, by go_num, by rw [ht], rfl, nin_snoc HX.out HN.out HXN.out, ?_, hBr.trans hB1⟩
            rw [ht, if_pos rfl, take_snoc HX.out, insR_snoc HP.out]
            have := HOL.out
            rw [if_pos rfl] at this
            rw [← this]
            exact hO1
          case measure => simp [intOf]; omega
    · have hkl : k = l.length := by omega
      subst hkl
      have e : l.take l.length = l := List.take_length
      rw [e] at HOL HN
      have hR : addR l n = insR n l := by unfold addR; rw [if_neg HN.out]
      have HR := Lib.hid hR
      clear hR
      cases hp : (l.take l.length).any fun x => decide (n < x)
      · rw [e] at hp
        rw [hp] at HOL
        have HP := Lib.hid hp
        clear hp e
        go_wp2_with (refine append1 rfl _ _ 56 rfl 3 Tryz.underlying56 infoInt rfl (by decide) (by decide) int_len int_one hOo n rfl rfl rfl rfl (by omega) (by omega) ?_; intro v1 w1 hO1 hg1 _ _; have hB1 := OwnAt.below hOo hg1 hwr; obtain ⟨ov1, cv1, rfl, _, _⟩ := hO1.slice; rw [show (ol ++ [n]).length = ol.length + 1 by simp] at hO1 ⊢)
        go_ret
        refine ⟨⟨_, rfl, ?_⟩, hBr.trans hB1⟩
        rw [HR.out, insR_last HP.out]
        have := HOL.out
        rw [if_neg (by decide)] at this
        rw [← this]
        exact OwnAt.base hO1 hB
      · rw [e] at hp
        rw [hp] at HOL
        clear hp e
        go_wp2_with fail
        go_ret
        refine ⟨⟨_, rfl, ?_⟩, hBr⟩
        rw [HR.out]
        have := HOL.out
        simp only [if_true] at this
        rw [← this]
        exact OwnAt.base hOo hB

theorem unionR_take {a b : List Int} {k : Nat} {x : Int} (h : b[k]? = some x) : unionR a (b.take (k + 1)) = addR (unionR a (b.take k)) x := by
  rw [take_snoc h]; simp [unionR]
theorem Good.take {l : List Int} (h : Good l) (k : Nat) : Good (l.take k) := ⟨h.1.sublist (List.take_sublist k l), fun x hx => h.2 x (List.mem_of_mem_take hx)⟩

set_option maxRecDepth 100000 in
set_option maxHeartbeats 4000000 in
theorem runion_any (a b : List Int) (B B' : Nat) (va vb : Value) (w : World) (ha : Row B w va a) (hb : Row B' w vb b) (hB : B ≤ w.heap.size) (ga : Good a) (gb : Good b) :
    Calls Tryz.prog 29 #[va, vb] w fun e w' => (∃ v', e = .returned v' ∧ Row B w' v' (unionR a b)) ∧ Below w.heap.size w w' := by
  obtain ⟨oa, ca, rfl, _, _⟩ := ha.slice
  obtain ⟨ob, cb, rfl, _, _⟩ := hb.slice
  have hlb := gb.len
  go_enter Tryz.func29, Tryz.ntmps29
  go_wp2_with fail
  go_loopw [5, 11] (fun vo i wr => ∃ (k : Nat), k ≤ b.length ∧ i = .int .i64 k ∧ Row B wr vo (unionR a (b.take k)) ∧ Below w.heap.size w wr) (fun _ i _ => b.length - (intOf i).toNat)
  case atStart => exact ⟨0, Nat.zero_le _, rfl, by simpa [unionR] using ha, Below.refl _ _⟩
  case round =>
    obtain ⟨k, hk, rfl, hOo, hBr⟩ := hrel
    rename World => wr
    obtain ⟨ov, cv, rfl, _, _⟩ := hOo.slice
    have hbr := hb.later hBr
    have hwr := hBr.size
    by_cases hlt : k < b.length
    · obtain ⟨x, bb, hx, rfl, hbb, c0⟩ := Row.at hbr hlt
      have hxr := gb.2 x (List.mem_of_getElem? hx)
      have HX := Lib.hid hx
      clear hx
      go_wp2_with (go_at_call 57; refine (radd_any _ x B _ wr hOo (by omega) (ga.union (gb.take k)).len).mono ?_; rintro e w1 ⟨⟨v1, rfl, hO1⟩, hB1⟩)
      go_roundw
      case rel => exact ⟨k + 1, by omega, by go_num, by rw [unionR_take HX.out]; exact hO1, hBr.trans (hB1.mono hwr)⟩
      case measure => simp [intOf]; omega
    · have hkl : k = b.length := by omega
      subst hkl
      go_wp2_with fail
      go_ret
      exact ⟨⟨_, rfl, by simpa using hOo⟩, hBr⟩

set_option maxRecDepth 100000 in
set_option maxHeartbeats 4000000 in
theorem rsame_any (l : List Int) (B B' : Nat) (va vb : Value) (w : World) (ha : Row B w va l) (hb : Row B' w vb l) (hl : l.length ≤ 1048576) :
    Calls Tryz.prog 22 #[va, vb] w fun e w' => e = .returned (.bool true) ∧ Below w.heap.size w w' := by
  obtain ⟨oa, ca, rfl, _, _⟩ := ha.slice
  obtain ⟨ob, cb, rfl, _, _⟩ := hb.slice
  have t0 : ((l.length : Int) != l.length) = false := by simp
  go_enter Tryz.func22, Tryz.ntmps22
  go_wp2_with fail
  go_loopw [13] (fun i wr => ∃ (k : Nat), k ≤ l.length ∧ i = .int .i64 k ∧ Below w.heap.size w wr) (fun i _ => l.length - (intOf i).toNat)
  case atStart => exact ⟨0, Nat.zero_le _, rfl, Below.refl _ _⟩
  case round =>
    obtain ⟨k, hk, rfl, hBr⟩ := hrel
    rename World => wr
    by_cases hlt : k < l.length
    · obtain ⟨x, b1, hx, rfl, hb1, c0⟩ := Row.at (ha.later hBr) hlt
      obtain ⟨x', b2, hx', rfl, hb2, c1⟩ := Row.at (hb.later hBr) hlt
      obtain rfl : x = x' := Option.some.inj (hx.symm.trans hx')
      have t1 : (x != x) = false := by simp
      clear hx hx'
      go_wp2_with fail
      go_quiet (fail)
      have hBq := below_drw hBr nq
      go_wp2_with fail
      go_roundw
      case rel => exact ⟨k + 1, by omega, by go_num, hBq⟩
      case measure => simp [intOf]; omega
    · have hkl : k = l.length := by omega
      subst hkl
      go_wp2_with fail
      go_ret
      exact ⟨rfl, hBr⟩
end Go.Proofs.YtkfdnlfkomhmfaaGreatDoor

namespace Go.Proofs.YtkfdnlfkomhmfaaGreatDoor
open Go.RowKit
set_option linter.unusedVariables false

/-- what a slot answers to, and still does when memory has been made -/
structure Sp where
  p : Value → World → Prop
  up : ∀ v w w', p v w → Below w.heap.size w w' → p v w'
def Sp.any : Sp := ⟨fun _ _ => True, fun _ _ _ _ _ => trivial⟩
def Sp.is (u : Value) : Sp := ⟨fun v _ => v = u, fun _ _ _ h _ => h⟩

def Nrm (K : Act → World → Prop) : Exit → Act → World → Prop := fun e a w => e = .normal ∧ K a w
theorem nrm_out {K : Act → World → Prop} (h : LetsOut (Nrm K)) : False := by obtain ⟨a, w, h⟩ := h; cases h.1
theorem Oper.wp_nrm {P : Program} {o : Oper} {a : Act} {w : World} {K K' : Act → World → Prop} {Q' : Exit → Act → World → Prop} (h : o.wp P a w K (Nrm K')) : o.wp P a w K Q' := by
  unfold Oper.wp at *
  generalize (execOp a.eval o).run P w = r at *
  cases r with
  | ok n w' =>
    cases n <;> simp only [Oper.upon] at h ⊢ <;>
      first
        | exact h
        | exact Calls.mono h (fun e w'' he => by cases e <;> first | exact he | exact (by cases he.1) | exact (nrm_out he).elim)
  | halt x w' => cases x <;> simp only [Oper.upon] at h ⊢ <;> first | exact h | exact (by cases h.1) | exact (nrm_out h).elim
theorem wpOp_of_list {P : Program} {ops : Array Oper} {i : Nat} {o : Oper} (ho : ops[i]? = some o) {K : Act → World → Prop} {Q' : Exit → Act → World → Prop} {a : Act} {w : World} (h : wpList P ops (Nrm K) [o] a w) : wpOp P ops Q' i K a w := by
  unfold wpOp
  simp only [ho]
  unfold wpList at h
  split
  · next hw =>
    rw [if_pos hw] at h
    rcases h with h | ⟨_, h⟩
    · exact .inl (Oper.wp_nrm (Oper.wp_mono (fun a w h => by unfold wpList at h; exact h.2) h))
    · exact (nrm_out h).elim
  · next hw =>
    rw [if_neg hw] at h
    unfold wpList at h
    exact h.2

def frameOf (a0 : Act) (ops : List Oper) (vs : List Value) : Act := (ops.zip vs).foldl (fun a ov => a.put ov.1.dst ov.2) a0
theorem frame_commute : ∀ (ops : List Oper) (vs : List Value) (a : Act) (d : Nat) (u : Value), (∀ o ∈ ops, o.dst ≠ some d) → (frameOf a ops vs).put (some d) u = frameOf (a.put (some d) u) ops vs := by
  intro ops
  induction ops with
  | nil => intro vs a d u _; rfl
  | cons o ops ih =>
    intro vs a d u h
    cases vs with
    | nil => rfl
    | cons v vs =>
      show (frameOf (a.put o.dst v) ops vs).put (some d) u = frameOf ((a.put (some d) u).put o.dst v) ops vs
      rw [ih vs _ d u (fun o ho => h o (List.mem_cons_of_mem _ ho)), Act.put_comm a (x := some d) (y := o.dst) u v (fun e he => by cases he; exact h o (by simp))]
theorem put_put (a : Act) (d : Nat) (v u : Value) : (a.put (some d) v).put (some d) u = a.put (some d) u := by
  have : (a.tmps.setIfInBounds d v).setIfInBounds d u = a.tmps.setIfInBounds d u := by
    apply Array.ext_getElem?
    intro i
    simp only [Array.getElem?_setIfInBounds, Array.size_setIfInBounds]
    split <;> rfl
  show ({ a with tmps := (a.tmps.setIfInBounds d v).setIfInBounds d u } : Act) = { a with tmps := a.tmps.setIfInBounds d u }
  rw [this]
theorem frame_put : ∀ (ops : List Oper) (vs : List Value) (a : Act) (i : Nat) (o : Oper) (d : Nat) (u : Value), vs.length = ops.length → (ops.map (·.dst)).Nodup → ops[i]? = some o → o.dst = some d →
    (frameOf a ops vs).put (some d) u = frameOf a ops (vs.set i u) := by
  intro ops
  induction ops with
  | nil => intro vs a i o d u _ _ h _; simp at h
  | cons q ops ih =>
    intro vs a i o d u hl hn ho hd
    cases vs with
    | nil => simp at hl
    | cons v vs =>
      rw [List.map_cons, List.nodup_cons] at hn
      cases i with
      | zero =>
        simp at ho; subst ho
        show (frameOf (a.put q.dst v) ops vs).put (some d) u = frameOf (a.put q.dst u) ops vs
        rw [frame_commute _ _ _ _ _ (fun o ho he => hn.1 (List.mem_map.2 ⟨o, ho, by rw [he, hd]⟩)), hd, put_put]
      | succ i =>
        show (frameOf (a.put q.dst v) ops vs).put (some d) u = frameOf (a.put q.dst v) ops (vs.set i u)
        exact ih vs _ i o d u (by simpa using hl) hn.2 (by simpa using ho) hd
def orig (a : Act) (o : Oper) : Value := match o.dst with | some d => a.tmps.getD d undef | none => undef
theorem frame_same : ∀ (ops : List Oper) (a : Act), frameOf a ops (ops.map (orig a)) = a := by
  intro ops
  induction ops with
  | nil => intro a; rfl
  | cons o ops ih =>
    intro a
    have : a.put o.dst (orig a o) = a := by
      unfold orig
      cases o.dst with
      | none => rfl
      | some d =>
        have : a.tmps.setIfInBounds d (a.tmps.getD d undef) = a.tmps := by
          apply Array.ext_getElem?
          intro i
          simp only [Array.getElem?_setIfInBounds]
          split
          · next h =>
            subst h
            split
            · next h2 => simp [h2]
            · next h2 => simp [Array.getElem?_eq_none (Nat.le_of_not_lt h2)]
          · rfl
        show ({ a with tmps := a.tmps.setIfInBounds d (a.tmps.getD d undef) } : Act) = a
        rw [this]
    show frameOf (a.put o.dst _) ops _ = a
    rw [this]
    exact ih a

theorem count_set {l : Array Bool} {i : Nat} (h : l.getD i true = false) : ((l.setIfInBounds i true).toList.count false) + 1 = l.toList.count false := by
  have hi : i < l.size := by
    by_cases hi : i < l.size
    · exact hi
    · simp [Array.getD, hi] at h
  have hv : l.toList[i]'(by simpa using hi) = false := by simpa [Array.getD, hi] using h
  rw [Array.toList_setIfInBounds, List.count_set (by simpa using hi)]
  have hpos : 0 < l.toList.count false := List.count_pos_iff.2 (by rw [← hv]; exact List.getElem_mem _)
  rw [hv]
  have h2 : (true == false) = false := rfl
  have h3 : (false == false) = true := rfl
  simp only [h2, h3, if_true, Bool.false_eq_true, if_false]
  omega

/-- what an operation waits for -/
def Deps (sps : List Sp) (vs : List Value) (w : World) : List Edge → Prop
  | [] => True
  | e :: es => (Region.binds .any e = true → (sps.getD e.on Sp.any).p (vs.getD e.on undef) w) ∧ Deps sps vs w es
theorem deps_of {sps : List Sp} {vs : List Value} {w : World} : ∀ {l : List Edge}, (∀ e ∈ l, Region.binds .any e = true → (sps.getD e.on Sp.any).p (vs.getD e.on undef) w) → Deps sps vs w l
  | [], _ => trivial
  | e :: es, h => ⟨h e (by simp), deps_of fun e' he => h e' (List.mem_cons_of_mem _ he)⟩
theorem deps_get {sps : List Sp} {vs : List Value} {w : World} : ∀ {l : List Edge} (h : Deps sps vs w l) (k : Nat) (hk : (l.any fun e => Region.binds .any e && e.on == k) = true), (sps.getD k Sp.any).p (vs.getD k undef) w
  | [], _, k, hk => by simp at hk
  | e :: es, h, k, hk => by
    rw [List.any_cons, Bool.or_eq_true, Bool.and_eq_true, beq_iff_eq] at hk
    rcases hk with ⟨h1, rfl⟩ | hk
    · exact h.1 h1
    · exact deps_get h.2 k hk
/-- what waits for operation i has not come yet -/
def Old (a0 : Act) (ops : List Oper) (vs : List Value) (i : Nat) : Prop := ∀ j o, ops[j]? = some o → (o.after.toList.any fun e => Region.binds .any e && e.on == i) = true → vs.getD j undef = orig a0 o
def Steps (a0 : Act) (all : List Oper) (a : Act) (sps : List Sp) (vs : List Value) (w : World) : Nat → List Oper → List Sp → Prop
  | i, o :: os, s :: ss => (Deps sps vs w o.after.toList → Old a0 all vs i → wpList Tryz.prog all.toArray (Nrm fun a' w' => ∃ v, a' = a.put o.dst v ∧ Below w.heap.size w w' ∧ s.p v w') [o] a w) ∧ Steps a0 all a sps vs w (i + 1) os ss
  | _, _, _ => True
theorem steps_at {a0 : Act} {all : List Oper} {a : Act} {sps : List Sp} {vs : List Value} {w : World} : ∀ {os : List Oper} {ss : List Sp} {i k : Nat} {o : Oper} {s : Sp}, Steps a0 all a sps vs w i os ss → os[k]? = some o → ss[k]? = some s →
    Deps sps vs w o.after.toList → Old a0 all vs (i + k) → wpList Tryz.prog all.toArray (Nrm fun a' w' => ∃ v, a' = a.put o.dst v ∧ Below w.heap.size w w' ∧ s.p v w') [o] a w
  | [], _, _, k, _, _, _, h, _ => by simp at h
  | _ :: _, [], _, k, _, _, _, _, h => by simp at h
  | o :: os, s :: ss, i, 0, _, _, hS, h1, h2 => by
    simp at h1 h2; subst h1; subst h2; exact hS.1
  | o :: os, s :: ss, i, k + 1, _, _, hS, h1, h2 => by
    have := steps_at (k := k) hS.2 (by simpa using h1) (by simpa using h2)
    rwa [show i + 1 + k = i + (k + 1) by omega] at this

def All (sps : List Sp) (vs : List Value) (w : World) : Prop := match sps, vs with
  | s :: ss, v :: vs => s.p v w ∧ All ss vs w
  | _, _ => True
theorem all_of {w : World} : ∀ {sps : List Sp} {vs : List Value}, (∀ k (s : Sp), sps[k]? = some s → s.p (vs.getD k undef) w) → All sps vs w
  | [], vs, _ => by unfold All; trivial
  | s :: ss, [], _ => by unfold All; trivial
  | s :: ss, v :: vs, h => by
    unfold All
    exact ⟨h 0 s rfl, all_of fun k s' hk => by have := h (k + 1) s' (by simpa using hk); simpa using this⟩

/-- THE LAW: each operation, what it waits for being there, leaves what it is asked to; what stands behind may lean on all. -/
theorem wp_region_spec {id : Nat} {Q : Exit → Act → World → Prop} {a0 : Act} {w0 : World} {ops : List Oper} (sps : List Sp) (hm : Tryz.prog.follows .mixedOrders = true)
    (hd : decide ((ops.map (·.dst)).Nodup) = true) (hs : ops.all (fun o => o.dst.isSome) = true) (hlen : sps.length = ops.length)
    (hback : (ops.zipIdx.all fun oi => oi.1.after.all fun e => !Region.binds .any e || decide (e.on < oi.2)) = true)
    (hstep : ∀ (vs : List Value) (w : World), vs.length = ops.length → Below w0.heap.size w0 w → Steps a0 ops (frameOf a0 ops vs) sps vs w 0 ops sps)
    (hend : ∀ (vs : List Value) (w : World), vs.length = ops.length → Below w0.heap.size w0 w → All sps vs w → Q .normal (frameOf a0 ops vs) w) :
    (Code.region id ops.toArray true).wp Tryz.prog Q a0 w0 := by
  replace hd := of_decide_eq_true hd
  refine wp_region_any hm ?_
  have H : ∀ (fuel : Nat) (listed : Array Bool) (vs : List Value) (w : World), listed.size = ops.length → listed.toList.count false ≤ fuel → vs.length = ops.length → Below w0.heap.size w0 w →
      (∀ k (s : Sp), listed.getD k false = true → sps[k]? = some s → s.p (vs.getD k undef) w) → (∀ k o, listed.getD k true = false → ops[k]? = some o → vs.getD k undef = orig a0 o) →
      (∀ k o, listed.getD k false = true → ops[k]? = some o → ∀ e ∈ o.after, Region.binds .any e = true → listed.getD e.on false = true) → wpAny Tryz.prog .any ops.toArray Q fuel listed (frameOf a0 ops vs) w := by
    have hall : ∀ (listed : Array Bool), listed.size = ops.length → Region.ready .any ops.toArray listed = [] → ∀ i, i < ops.length → listed.getD i false = true := by
      intro listed hls hr i
      induction i using Nat.strongRecOn with
      | _ i ih =>
        intro hi
        by_cases hl : listed.getD i false = true
        · exact hl
        · exfalso
          have hmem : i ∈ Region.ready .any ops.toArray listed := by
            rw [mem_ready]
            refine ⟨?_, ops[i], by simp [hi], fun e he hb => ?_⟩
            · have : i < listed.size := by omega
              simp [Array.getD, this] at hl ⊢
              exact hl
            · refine ih e.on ?_ ?_
              · have := List.all_eq_true.1 hback (ops[i], i) (by rw [List.mem_zipIdx_iff_getElem?]; simp [hi])
                have := (Array.all_eq_true_iff_forall_mem.1 this) e he
                simpa [hb] using this
              · have := List.all_eq_true.1 hback (ops[i], i) (by rw [List.mem_zipIdx_iff_getElem?]; simp [hi])
                have := (Array.all_eq_true_iff_forall_mem.1 this) e he
                simp [hb] at this
                omega
          rw [hr] at hmem
          cases hmem
    have hfin : ∀ (listed : Array Bool) (vs : List Value) (w : World), listed.size = ops.length → vs.length = ops.length → Below w0.heap.size w0 w → Region.ready .any ops.toArray listed = [] →
        (∀ k (s : Sp), listed.getD k false = true → sps[k]? = some s → s.p (vs.getD k undef) w) → Q .normal (frameOf a0 ops vs) w := by
      intro listed vs w hls hv hB hr hp
      refine hend vs w hv hB (all_of fun k s hk => hp k s (hall listed hls hr k ?_) hk)
      rw [← hlen]; exact (List.getElem?_eq_some_iff.1 hk).1
    intro fuel
    induction fuel with
    | zero =>
      intro listed vs w hls hc hv hB hp hq hz
      have hr : Region.ready .any ops.toArray listed = [] := by
        refine List.eq_nil_iff_forall_not_mem.2 fun i hi => ?_
        obtain ⟨h1, _⟩ := mem_ready.1 hi
        have := count_set h1
        omega
      exact ⟨hr, hfin listed vs w hls hv hB hr hp⟩
    | succ fuel ih =>
      intro listed vs w hls hc hv hB hp hq hz
      refine ⟨fun hr => hfin listed vs w hls hv hB hr hp, fun i hi => ?_⟩
      obtain ⟨h1, o, ho, hdep⟩ := mem_ready.1 hi
      have ho' : ops[i]? = some o := by simpa using ho
      have hil : i < ops.length := (List.getElem?_eq_some_iff.1 ho').1
      obtain ⟨s, hsi⟩ : ∃ s, sps[i]? = some s := ⟨sps[i]'(by omega), by simp⟩
      obtain ⟨d, hdd⟩ : ∃ d, o.dst = some d := by
        have := List.all_eq_true.1 hs o (List.mem_of_getElem? ho')
        exact Option.isSome_iff_exists.1 this
      refine wpOp_mono ?_ (wpOp_of_list ho (steps_at (hstep vs w hv hB) ho' hsi (deps_of fun e he hb => ?_) ?_))
      rotate_left 1
      · have hl := hdep e (by simpa using he) hb
        cases hs' : sps[e.on]? with
        | none => simp [List.getD, hs', Sp.any]
        | some s' => have := hp e.on s' hl hs'; simpa [List.getD, hs'] using this
      · intro j oj hoj haf
        obtain ⟨e, he, hb⟩ := List.any_eq_true.1 haf
        replace he : e ∈ oj.after := by simpa using he
        rw [Bool.and_eq_true, beq_iff_eq] at hb
        refine hq j oj ?_ hoj
        cases hlj : listed.getD j true with
        | false => rfl
        | true =>
          exfalso
          have hjl : j < listed.size := by rw [hls]; exact (List.getElem?_eq_some_iff.1 hoj).1
          have h3 := hz j oj (by simpa [Array.getD, hjl] using hlj) hoj e he hb.1
          rw [hb.2, Nat.zero_add] at h3
          have hil2 : i < listed.size := by omega
          simp [Array.getD, hil2] at h3 h1
          rw [h3] at h1; cases h1
      rintro a' w' ⟨v, rfl, hB', hsv⟩
      rw [hdd, frame_put ops vs a0 i o d v hv hd ho' hdd]
      have hcs := count_set h1
      refine ih _ _ w' (by simpa using hls) (by omega) (by simpa using hv) (hB.trans (hB'.mono hB.size)) ?_ ?_ ?_
      rotate_left 1
      · intro k ok hk hok
        have hne : ¬ i = k := fun e => by subst e; simp [Array.getD, hls, hil] at hk
        have hk2 : listed.getD k true = false := by
          have hkl : k < listed.size := by rw [hls]; exact (List.getElem?_eq_some_iff.1 hok).1
          simpa [Array.getD, hkl, Array.getElem_setIfInBounds, hne] using hk
        have h2 : (vs.set i v).getD k undef = vs.getD k undef := by simp [List.getD, hne]
        rw [h2]; exact hq k ok hk2 hok
      · intro k ok hk hok e he hb
        have hmon : listed.getD e.on false = true → (listed.setIfInBounds i true).getD e.on false = true := fun h => by
          by_cases hel : e.on < listed.size
          · by_cases hie : i = e.on
            · simp [Array.getD, hel, hie]
            · simpa [Array.getD, hel, Array.getElem_setIfInBounds, hie] using h
          · simp [Array.getD, hel] at h
        refine hmon ?_
        by_cases hki : k = i
        · subst hki
          have : ok = o := Option.some.inj (hok.symm.trans ho')
          subst this
          exact hdep e he hb
        · have hne : ¬ i = k := fun e => hki e.symm
          have hkl : k < listed.size := by rw [hls]; exact (List.getElem?_eq_some_iff.1 hok).1
          exact hz k ok (by simpa [Array.getD, hkl, Array.getElem_setIfInBounds, hne] using hk) hok e he hb
      intro k s' hk hs'
      by_cases hki : k = i
      · subst hki
        have : s' = s := Option.some.inj (hs'.symm.trans hsi)
        subst this
        simp [List.getD, hv, hil]
        exact hsv
      · have hk' : listed.getD k false = true := by
          have hne : ¬ i = k := fun h => hki h.symm
          have : k < listed.size := by
            by_cases hk2 : k < listed.size
            · exact hk2
            · simp [Array.getD, hk2] at hk
          simpa [Array.getD, this, Array.getElem_setIfInBounds, hne] using hk
        have hne : ¬ i = k := fun h => hki h.symm
        have h2 : (vs.set i v).getD k undef = vs.getD k undef := by simp [List.getD, hne]
        rw [h2]
        exact s'.up _ _ _ (hp k s' hk' hs') hB'
  have := H ops.length (Array.replicate ops.length false) (ops.map (orig a0)) { w0 with drawn := w0.drawn + 1 } (by simp) (by simp) (by simp) ((Below.refl _ w0).drew) (by
    intro k s hk
    simp [Array.getD] at hk) (by
    intro k o _ ho
    simp [List.getD, ho]) (by
    intro k o hk
    simp [Array.getD] at hk)
  rw [frame_same] at this
  simpa using this
end Go.Proofs.YtkfdnlfkomhmfaaGreatDoor

namespace Go.Proofs.YtkfdnlfkomhmfaaGreatDoor
open Go.RowKit
set_option linter.unusedVariables false
set_option linter.unusedSimpArgs false

theorem Row.one (w : World) (x : Int) : Row w.heap.size (w.alloc (.cells #[.int .i64 x] 3)) (.slice (some ⟨w.heap.size, 0, none⟩) 1 1) [x] :=
  ⟨by simp [intCells], .inr ⟨w.heap.size, 1, [.int .i64 x].toArray, rfl, Nat.le_refl _, heap_alloc_new w _, by simp, by unfold maxLen; omega, by simp, by simp [intCells]⟩⟩

set_option maxRecDepth 100000 in
set_option maxHeartbeats 4000000 in
theorem rnamed_any (p : Prog) (s : ByteArray) (a b : Int) (v0 v1 v2 v3 v4 v5 : Value) (N : Nat) (w : World) (hp : ProgAt N w v0 v1 v2 v3 v4 v5 p) (hN : N ≤ w.heap.size) :
    Calls Tryz.prog 56 #[.agg #[v0, v1, v2, v3, v4, v5], .string s, .int .i64 a, .int .i64 b] w fun e w' => (∃ v', e = .returned v' ∧ Row w.heap.size w' v' (namedR (namesOf p) s a b)) ∧ Below w.heap.size w w' := by
  obtain ⟨o0, q0, rfl, _, _, n0⟩ := SliceAt.slice hp.consts
  obtain ⟨o1, q1, rfl, _, _, n1⟩ := SliceAt.slice hp.globals
  obtain ⟨o2, q2, rfl, _, _, n2⟩ := SliceAt.slice hp.sensors
  obtain ⟨o3, q3, rfl, _, _, n3⟩ := SliceAt.slice hp.outputs
  obtain ⟨o4, q4, rfl, _, _, n4⟩ := SliceAt.slice hp.channels
  obtain ⟨o5, q5, rfl, _, _, n5⟩ := hp.tasks.slice
  have HLV := Lib.hid (show lookV (namesOf p) s = .tuple #[.int .i64 (lookK (namesOf p) s), .int .i64 (lookI (namesOf p) s), .bool (lookB (namesOf p) s)] from rfl)
  have hr : namedR (namesOf p) s a b = if lookK (namesOf p) s = a ∨ lookK (namesOf p) s = b then [lookI (namesOf p) s] else [] := rfl
  generalize lookK (namesOf p) s = K at HLV hr
  generalize lookI (namesOf p) s = I at HLV hr
  generalize lookB (namesOf p) s = Bk at HLV
  have HR := Lib.hid hr
  clear hr
  by_cases ha : K = a
  · have t1 : (K == a) = true := beq_iff_eq.2 ha
    have HA := Lib.hid ha
    clear ha
    go_enter Tryz.func56, Tryz.ntmps56
    go_upto_region 1 with fail
    have hA := Blk.new w #[.slice o0 p.consts.length q0, .slice o1 p.globals.length q1, .slice o2 p.sensors.length q2, .slice o3 p.outputs.length q3, .slice o4 p.channels.length q4, .slice o5 p.tasks.length q5] 28
    have hWB := (Below.refl w.heap.size w).alloc (Nat.le_refl _) (.cells #[.slice o0 p.consts.length q0, .slice o1 p.globals.length q1, .slice o2 p.sensors.length q2, .slice o3 p.outputs.length q3, .slice o4 p.channels.length q4, .slice o5 p.tasks.length q5] 28)
    generalize w.alloc (.cells #[.slice o0 p.consts.length q0, .slice o1 p.globals.length q1, .slice o2 p.sensors.length q2, .slice o3 p.outputs.length q3, .slice o4 p.channels.length q4, .slice o5 p.tasks.length q5] 28) = W at hA hWB ⊢
    have a0 := hA.cell 0 rfl
    have a1 := hA.cell 1 rfl
    have a2 := hA.cell 2 rfl
    have a3 := hA.cell 3 rfl
    have a4 := hA.cell 4 rfl
    have a5 := hA.cell 5 rfl
    have hp' := hp.lift (hWB.mono hN)
    have hNW := Nat.le_trans hN hWB.size
    go_wp2_with (go_at_call 16; refine (rLookup_any p _ _ _ _ _ _ _ N _ hp' hNW).mono ?_; rintro e w1 ⟨rfl, hB1⟩; rw [HLV.out]; have hfin := hWB.trans (hB1.mono hWB.size))
    go_ret
    refine ⟨⟨_, rfl, ?_⟩, hfin.alloc hfin.size _⟩
    rw [HR.out, if_pos (.inl HA.out)]
    exact OwnAt.base (Row.one _ _) hfin.size
  · have t1 : (K == a) = false := beq_eq_false_iff_ne.2 ha
    have HA := Lib.hid ha
    clear ha
    by_cases hb : K = b
    · have t2 : (K == b) = true := beq_iff_eq.2 hb
      have HB := Lib.hid hb
      clear hb
      go_enter Tryz.func56, Tryz.ntmps56
      go_upto_region 1 with fail
      have hA := Blk.new w #[.slice o0 p.consts.length q0, .slice o1 p.globals.length q1, .slice o2 p.sensors.length q2, .slice o3 p.outputs.length q3, .slice o4 p.channels.length q4, .slice o5 p.tasks.length q5] 28
      have hWB := (Below.refl w.heap.size w).alloc (Nat.le_refl _) (.cells #[.slice o0 p.consts.length q0, .slice o1 p.globals.length q1, .slice o2 p.sensors.length q2, .slice o3 p.outputs.length q3, .slice o4 p.channels.length q4, .slice o5 p.tasks.length q5] 28)
      generalize w.alloc (.cells #[.slice o0 p.consts.length q0, .slice o1 p.globals.length q1, .slice o2 p.sensors.length q2, .slice o3 p.outputs.length q3, .slice o4 p.channels.length q4, .slice o5 p.tasks.length q5] 28) = W at hA hWB ⊢
      have a0 := hA.cell 0 rfl
      have a1 := hA.cell 1 rfl
      have a2 := hA.cell 2 rfl
      have a3 := hA.cell 3 rfl
      have a4 := hA.cell 4 rfl
      have a5 := hA.cell 5 rfl
      have hp' := hp.lift (hWB.mono hN)
      have hNW := Nat.le_trans hN hWB.size
      go_wp2_with (go_at_call 16; refine (rLookup_any p _ _ _ _ _ _ _ N _ hp' hNW).mono ?_; rintro e w1 ⟨rfl, hB1⟩; rw [HLV.out]; have hfin := hWB.trans (hB1.mono hWB.size))
      go_ret
      refine ⟨⟨_, rfl, ?_⟩, hfin.alloc hfin.size _⟩
      rw [HR.out, if_pos (.inr HB.out)]
      exact OwnAt.base (Row.one _ _) hfin.size
    · have t2 : (K == b) = false := beq_eq_false_iff_ne.2 hb
      have HB := Lib.hid hb
      clear hb
      go_enter Tryz.func56, Tryz.ntmps56
      go_upto_region 1 with fail
      have hA := Blk.new w #[.slice o0 p.consts.length q0, .slice o1 p.globals.length q1, .slice o2 p.sensors.length q2, .slice o3 p.outputs.length q3, .slice o4 p.channels.length q4, .slice o5 p.tasks.length q5] 28
      have hWB := (Below.refl w.heap.size w).alloc (Nat.le_refl _) (.cells #[.slice o0 p.consts.length q0, .slice o1 p.globals.length q1, .slice o2 p.sensors.length q2, .slice o3 p.outputs.length q3, .slice o4 p.channels.length q4, .slice o5 p.tasks.length q5] 28)
      generalize w.alloc (.cells #[.slice o0 p.consts.length q0, .slice o1 p.globals.length q1, .slice o2 p.sensors.length q2, .slice o3 p.outputs.length q3, .slice o4 p.channels.length q4, .slice o5 p.tasks.length q5] 28) = W at hA hWB ⊢
      have a0 := hA.cell 0 rfl
      have a1 := hA.cell 1 rfl
      have a2 := hA.cell 2 rfl
      have a3 := hA.cell 3 rfl
      have a4 := hA.cell 4 rfl
      have a5 := hA.cell 5 rfl
      have hp' := hp.lift (hWB.mono hN)
      have hNW := Nat.le_trans hN hWB.size
      go_wp2_with (go_at_call 16; refine (rLookup_any p _ _ _ _ _ _ _ N _ hp' hNW).mono ?_; rintro e w1 ⟨rfl, hB1⟩; rw [HLV.out]; have hfin := hWB.trans (hB1.mono hWB.size))
      go_ret
      refine ⟨⟨_, rfl, ?_⟩, hfin⟩
      rw [HR.out, if_neg (fun h => h.elim HA.out HB.out)]
      exact OwnAt.nil _ _ _ _ _

set_option maxRecDepth 100000 in
set_option maxHeartbeats 8000000 in
theorem inExpr_any (p : Prog) (hds : Idx (namesOf p)) (t : Bool) : ∀ (m : Nat) (x : Expr) (v0 v1 v2 v3 v4 v5 va : Value) (N : Nat) (w : World), esz x < m → ProgAt N w v0 v1 v2 v3 v4 v5 p → x.Wf → ExprsAt N w va x.args → N ≤ w.heap.size →
    Calls Tryz.prog 102 #[.agg #[v0, v1, v2, v3, v4, v5], .agg #[.int .i64 x.kind, .string x.name, .int .i16 x.value, .int .i64 x.op, va, .int .i64 x.pos], .bool t] w fun e w' =>
      (∃ v', e = .returned v' ∧ Row w.heap.size w' v' (inX (namesOf p) t x)) ∧ Below w.heap.size w w' := by
  intro m
  induction m with
  | zero => intro x v0 v1 v2 v3 v4 v5 va N w hm; omega
  | succ m ih =>
  intro x v0 v1 v2 v3 v4 v5 va N w hm hp hwf ha hN
  obtain ⟨o0, q0, rfl, _, _, n0⟩ := SliceAt.slice hp.consts
  obtain ⟨o1, q1, rfl, _, _, n1⟩ := SliceAt.slice hp.globals
  obtain ⟨o2, q2, rfl, _, _, n2⟩ := SliceAt.slice hp.sensors
  obtain ⟨o3, q3, rfl, _, _, n3⟩ := SliceAt.slice hp.outputs
  obtain ⟨o4, q4, rfl, _, _, n4⟩ := SliceAt.slice hp.channels
  obtain ⟨o5, q5, rfl, _, _, n5⟩ := hp.tasks.slice
  obtain ⟨oa, ca, rfl, _, _, na⟩ := ha.slice
  have hsub : ∀ y, y ∈ x.args → esz y < m := fun y hy => by
    have := esz_mem hy; omega
  have HS := Lib.hid hsub
  have hgood : ∀ k, Good (inE (namesOf p) t (hereX (namesOf p) t x.kind x.name) (x.args.take k)) := fun k => good_inE hds t _ _ _ (Nat.le_refl _) (good_hereX hds _ _ _)
  have hgy : ∀ y : Expr, Good (inX (namesOf p) t y) := fun y => by rw [inX_eq]; exact good_inE hds t _ _ _ (Nat.le_refl _) (good_hereX hds _ _ _)
  have HGD := Lib.hid hgood
  have HGY := Lib.hid hgy
  clear hm hsub hgood hgy
  have HE := Lib.hid (inX_eq (namesOf p) t x)
  have HDS := Lib.hid hds
  clear hds
  cases t
  · by_cases h2 : x.kind = 2
    · have t2 : (x.kind == 2) = true := beq_iff_eq.2 h2
      have HH := Lib.hid (show hereX (namesOf p) false x.kind x.name = namedR (namesOf p) x.name 2 3 by unfold hereX; rw [if_neg (by decide), if_pos (.inl h2)])
      clear h2
      go_enter Tryz.func102, Tryz.ntmps102
      go_upto_region 1 with fail
      obtain ⟨hA, hX⟩ := Blk.two w #[.slice o0 p.consts.length q0, .slice o1 p.globals.length q1, .slice o2 p.sensors.length q2, .slice o3 p.outputs.length q3, .slice o4 p.channels.length q4, .slice o5 p.tasks.length q5] 28 #[.int .i64 x.kind, .string x.name, .int .i16 x.value, .int .i64 x.op, .slice oa x.args.length ca, .int .i64 x.pos] 40
      have hWB := below_two w (.cells #[.slice o0 p.consts.length q0, .slice o1 p.globals.length q1, .slice o2 p.sensors.length q2, .slice o3 p.outputs.length q3, .slice o4 p.channels.length q4, .slice o5 p.tasks.length q5] 28) (.cells #[.int .i64 x.kind, .string x.name, .int .i16 x.value, .int .i64 x.op, .slice oa x.args.length ca, .int .i64 x.pos] 40)
      generalize ((w.alloc (.cells #[.slice o0 p.consts.length q0, .slice o1 p.globals.length q1, .slice o2 p.sensors.length q2, .slice o3 p.outputs.length q3, .slice o4 p.channels.length q4, .slice o5 p.tasks.length q5] 28)).alloc (.cells #[.int .i64 x.kind, .string x.name, .int .i16 x.value, .int .i64 x.op, .slice oa x.args.length ca, .int .i64 x.pos] 40)) = W at hA hX hWB ⊢
      have a0 := hA.cell 0 rfl
      have a1 := hA.cell 1 rfl
      have a2 := hA.cell 2 rfl
      have a3 := hA.cell 3 rfl
      have a4 := hA.cell 4 rfl
      have a5 := hA.cell 5 rfl
      have x0 := hX.cell 0 rfl
      have x1 := hX.cell 1 rfl
      have x2 := hX.cell 2 rfl
      have x3 := hX.cell 3 rfl
      have x4 := hX.cell 4 rfl
      have x5 := hX.cell 5 rfl
      have hp' := hp.lift (hWB.mono hN)
      have ha' := ha.lift (hWB.mono hN)
      have hNW := Nat.le_trans hN hWB.size
      go_wp2_with (go_at_call 56; refine (rnamed_any p _ _ _ _ _ _ _ _ _ N _ hp' hNW).mono ?_; rintro e w1 ⟨⟨vo, rfl, hO1⟩, hB1⟩; rw [← HH.out] at hO1; have z4 := (hX.later hB1).cell 4 rfl)
      go_loopw [7, 39] (fun vo i wr => ∃ (k : Nat), k ≤ x.args.length ∧ i = .int .i64 k ∧ Row W.heap.size wr vo (inE (namesOf p) false (hereX (namesOf p) false x.kind x.name) (x.args.take k)) ∧ Below W.heap.size W wr) (fun _ i _ => x.args.length - (intOf i).toNat)
      case atStart => exact ⟨0, Nat.zero_le _, rfl, by simpa [inE] using hO1, hB1⟩
      case round =>
        obtain ⟨k, hk, rfl, hO, hB⟩ := hrel
        rename World => wr
        have hfin := hWB.trans (hB.mono hWB.size)
        by_cases hlt : k < x.args.length
        · obtain ⟨y, b, off, vy, hy, rfl, hb, hyw, hya, c0, c1, c2, c3, c4, c5⟩ := ExprsAt.at (ha'.lift (hB.mono hNW)) hlt
          have hmem := HS.out y (List.mem_of_getElem? hy)
          have hA' := hA.later hB
          have a0 := hA'.cell 0 rfl
          have a1 := hA'.cell 1 rfl
          have a2 := hA'.cell 2 rfl
          have a3 := hA'.cell 3 rfl
          have a4 := hA'.cell 4 rfl
          have a5 := hA'.cell 5 rfl
          obtain ⟨oy, cy, rfl, _, _, _⟩ := hya.slice
          go_upto_region 9 with fail
          have hY := Blk.new wr #[.int .i64 y.kind, .string y.name, .int .i16 y.value, .int .i64 y.op, .slice oy y.args.length cy, .int .i64 y.pos] 40
          have hZ := (Below.refl wr.heap.size wr).alloc (Nat.le_refl _) (.cells #[.int .i64 y.kind, .string y.name, .int .i16 y.value, .int .i64 y.op, .slice oy y.args.length cy, .int .i64 y.pos] 40)
          generalize wr.alloc (.cells #[.int .i64 y.kind, .string y.name, .int .i16 y.value, .int .i64 y.op, .slice oy y.args.length cy, .int .i64 y.pos] 40) = Z at hY hZ ⊢
          replace a0 := cell_later a0 hZ
          replace a1 := cell_later a1 hZ
          replace a2 := cell_later a2 hZ
          replace a3 := cell_later a3 hZ
          replace a4 := cell_later a4 hZ
          replace a5 := cell_later a5 hZ
          have y0 := hY.cell 0 rfl
          have y1 := hY.cell 1 rfl
          have y2 := hY.cell 2 rfl
          have y3 := hY.cell 3 rfl
          have y4 := hY.cell 4 rfl
          have y5 := hY.cell 5 rfl
          clear c0 c1 c2 c3 c4 c5
          have hBZ := hB.trans (hZ.mono hB.size)
          have hcall := ih y _ _ _ _ _ _ (.slice oy y.args.length cy) N Z hmem (hp'.lift (hBZ.mono hNW)) hyw (hya.lift (hZ.mono (Nat.le_trans hNW hB.size))) (Nat.le_trans hNW hBZ.size)
          have HC := Lib.hid hcall
          have HY := Lib.hid hy
          clear hy hmem hcall
          go_wp2_with (first
            | (go_at_call 102; refine HC.out.mono ?_; rintro e w2 ⟨⟨v2, rfl, hO2⟩, hB2⟩; have hOa := (hO.later hZ).later hB2; have hWw2 := Nat.le_trans hBZ.size hB2.size)
            | (go_at_call 29; refine (runion_any _ _ W.heap.size _ _ _ w2 hOa hO2 hWw2 (HGD.out k) (HGY.out y)).mono ?_; rintro e w3 ⟨⟨v3, rfl, hO3⟩, hB3⟩))
          go_roundw
          case rel => exact ⟨k + 1, by omega, by go_num, by rw [inE_take HY.out]; exact hO3, (hBZ.trans (hB2.mono hBZ.size)).trans (hB3.mono hWw2)⟩
          case measure => simp [intOf]; omega
        · have hkl : k = x.args.length := by omega
          subst hkl
          go_wp2_with fail
          go_ret
          refine ⟨⟨_, rfl, ?_⟩, hfin⟩
          rw [HE.out]
          have := OwnAt.base hO hWB.size
          rwa [List.take_length] at this
    · by_cases h3 : x.kind = 3
      · have t2 : (x.kind == 2) = false := beq_eq_false_iff_ne.2 h2
        have t3 : (x.kind == 3) = true := beq_iff_eq.2 h3
        have HH := Lib.hid (show hereX (namesOf p) false x.kind x.name = namedR (namesOf p) x.name 2 3 by unfold hereX; rw [if_neg (by decide), if_pos (.inr h3)])
        clear h2 h3
        go_enter Tryz.func102, Tryz.ntmps102
        go_upto_region 1 with fail
        obtain ⟨hA, hX⟩ := Blk.two w #[.slice o0 p.consts.length q0, .slice o1 p.globals.length q1, .slice o2 p.sensors.length q2, .slice o3 p.outputs.length q3, .slice o4 p.channels.length q4, .slice o5 p.tasks.length q5] 28 #[.int .i64 x.kind, .string x.name, .int .i16 x.value, .int .i64 x.op, .slice oa x.args.length ca, .int .i64 x.pos] 40
        have hWB := below_two w (.cells #[.slice o0 p.consts.length q0, .slice o1 p.globals.length q1, .slice o2 p.sensors.length q2, .slice o3 p.outputs.length q3, .slice o4 p.channels.length q4, .slice o5 p.tasks.length q5] 28) (.cells #[.int .i64 x.kind, .string x.name, .int .i16 x.value, .int .i64 x.op, .slice oa x.args.length ca, .int .i64 x.pos] 40)
        generalize ((w.alloc (.cells #[.slice o0 p.consts.length q0, .slice o1 p.globals.length q1, .slice o2 p.sensors.length q2, .slice o3 p.outputs.length q3, .slice o4 p.channels.length q4, .slice o5 p.tasks.length q5] 28)).alloc (.cells #[.int .i64 x.kind, .string x.name, .int .i16 x.value, .int .i64 x.op, .slice oa x.args.length ca, .int .i64 x.pos] 40)) = W at hA hX hWB ⊢
        have a0 := hA.cell 0 rfl
        have a1 := hA.cell 1 rfl
        have a2 := hA.cell 2 rfl
        have a3 := hA.cell 3 rfl
        have a4 := hA.cell 4 rfl
        have a5 := hA.cell 5 rfl
        have x0 := hX.cell 0 rfl
        have x1 := hX.cell 1 rfl
        have x2 := hX.cell 2 rfl
        have x3 := hX.cell 3 rfl
        have x4 := hX.cell 4 rfl
        have x5 := hX.cell 5 rfl
        have hp' := hp.lift (hWB.mono hN)
        have ha' := ha.lift (hWB.mono hN)
        have hNW := Nat.le_trans hN hWB.size
        go_wp2_with (go_at_call 56; refine (rnamed_any p _ _ _ _ _ _ _ _ _ N _ hp' hNW).mono ?_; rintro e w1 ⟨⟨vo, rfl, hO1⟩, hB1⟩; rw [← HH.out] at hO1; have z4 := (hX.later hB1).cell 4 rfl)
        go_loopw [7, 39] (fun vo i wr => ∃ (k : Nat), k ≤ x.args.length ∧ i = .int .i64 k ∧ Row W.heap.size wr vo (inE (namesOf p) false (hereX (namesOf p) false x.kind x.name) (x.args.take k)) ∧ Below W.heap.size W wr) (fun _ i _ => x.args.length - (intOf i).toNat)
        case atStart => exact ⟨0, Nat.zero_le _, rfl, by simpa [inE] using hO1, hB1⟩
        case round =>
          obtain ⟨k, hk, rfl, hO, hB⟩ := hrel
          rename World => wr
          have hfin := hWB.trans (hB.mono hWB.size)
          by_cases hlt : k < x.args.length
          · obtain ⟨y, b, off, vy, hy, rfl, hb, hyw, hya, c0, c1, c2, c3, c4, c5⟩ := ExprsAt.at (ha'.lift (hB.mono hNW)) hlt
            have hmem := HS.out y (List.mem_of_getElem? hy)
            have hA' := hA.later hB
            have a0 := hA'.cell 0 rfl
            have a1 := hA'.cell 1 rfl
            have a2 := hA'.cell 2 rfl
            have a3 := hA'.cell 3 rfl
            have a4 := hA'.cell 4 rfl
            have a5 := hA'.cell 5 rfl
            obtain ⟨oy, cy, rfl, _, _, _⟩ := hya.slice
            go_upto_region 9 with fail
            have hY := Blk.new wr #[.int .i64 y.kind, .string y.name, .int .i16 y.value, .int .i64 y.op, .slice oy y.args.length cy, .int .i64 y.pos] 40
            have hZ := (Below.refl wr.heap.size wr).alloc (Nat.le_refl _) (.cells #[.int .i64 y.kind, .string y.name, .int .i16 y.value, .int .i64 y.op, .slice oy y.args.length cy, .int .i64 y.pos] 40)
            generalize wr.alloc (.cells #[.int .i64 y.kind, .string y.name, .int .i16 y.value, .int .i64 y.op, .slice oy y.args.length cy, .int .i64 y.pos] 40) = Z at hY hZ ⊢
            replace a0 := cell_later a0 hZ
            replace a1 := cell_later a1 hZ
            replace a2 := cell_later a2 hZ
            replace a3 := cell_later a3 hZ
            replace a4 := cell_later a4 hZ
            replace a5 := cell_later a5 hZ
            have y0 := hY.cell 0 rfl
            have y1 := hY.cell 1 rfl
            have y2 := hY.cell 2 rfl
            have y3 := hY.cell 3 rfl
            have y4 := hY.cell 4 rfl
            have y5 := hY.cell 5 rfl
            clear c0 c1 c2 c3 c4 c5
            have hBZ := hB.trans (hZ.mono hB.size)
            have hcall := ih y _ _ _ _ _ _ (.slice oy y.args.length cy) N Z hmem (hp'.lift (hBZ.mono hNW)) hyw (hya.lift (hZ.mono (Nat.le_trans hNW hB.size))) (Nat.le_trans hNW hBZ.size)
            have HC := Lib.hid hcall
            have HY := Lib.hid hy
            clear hy hmem hcall
            go_wp2_with (first
              | (go_at_call 102; refine HC.out.mono ?_; rintro e w2 ⟨⟨v2, rfl, hO2⟩, hB2⟩; have hOa := (hO.later hZ).later hB2; have hWw2 := Nat.le_trans hBZ.size hB2.size)
              | (go_at_call 29; refine (runion_any _ _ W.heap.size _ _ _ w2 hOa hO2 hWw2 (HGD.out k) (HGY.out y)).mono ?_; rintro e w3 ⟨⟨v3, rfl, hO3⟩, hB3⟩))
            go_roundw
            case rel => exact ⟨k + 1, by omega, by go_num, by rw [inE_take HY.out]; exact hO3, (hBZ.trans (hB2.mono hBZ.size)).trans (hB3.mono hWw2)⟩
            case measure => simp [intOf]; omega
          · have hkl : k = x.args.length := by omega
            subst hkl
            go_wp2_with fail
            go_ret
            refine ⟨⟨_, rfl, ?_⟩, hfin⟩
            rw [HE.out]
            have := OwnAt.base hO hWB.size
            rwa [List.take_length] at this
      · have t2 : (x.kind == 2) = false := beq_eq_false_iff_ne.2 h2
        have t3 : (x.kind == 3) = false := beq_eq_false_iff_ne.2 h3
        have HH := Lib.hid (show hereX (namesOf p) false x.kind x.name = [] by unfold hereX; rw [if_neg (by decide), if_neg (fun h => h.elim h2 h3)])
        clear h2 h3
        go_enter Tryz.func102, Tryz.ntmps102
        go_upto_region 1 with fail
        obtain ⟨hA, hX⟩ := Blk.two w #[.slice o0 p.consts.length q0, .slice o1 p.globals.length q1, .slice o2 p.sensors.length q2, .slice o3 p.outputs.length q3, .slice o4 p.channels.length q4, .slice o5 p.tasks.length q5] 28 #[.int .i64 x.kind, .string x.name, .int .i16 x.value, .int .i64 x.op, .slice oa x.args.length ca, .int .i64 x.pos] 40
        have hWB := below_two w (.cells #[.slice o0 p.consts.length q0, .slice o1 p.globals.length q1, .slice o2 p.sensors.length q2, .slice o3 p.outputs.length q3, .slice o4 p.channels.length q4, .slice o5 p.tasks.length q5] 28) (.cells #[.int .i64 x.kind, .string x.name, .int .i16 x.value, .int .i64 x.op, .slice oa x.args.length ca, .int .i64 x.pos] 40)
        generalize ((w.alloc (.cells #[.slice o0 p.consts.length q0, .slice o1 p.globals.length q1, .slice o2 p.sensors.length q2, .slice o3 p.outputs.length q3, .slice o4 p.channels.length q4, .slice o5 p.tasks.length q5] 28)).alloc (.cells #[.int .i64 x.kind, .string x.name, .int .i16 x.value, .int .i64 x.op, .slice oa x.args.length ca, .int .i64 x.pos] 40)) = W at hA hX hWB ⊢
        have a0 := hA.cell 0 rfl
        have a1 := hA.cell 1 rfl
        have a2 := hA.cell 2 rfl
        have a3 := hA.cell 3 rfl
        have a4 := hA.cell 4 rfl
        have a5 := hA.cell 5 rfl
        have x0 := hX.cell 0 rfl
        have x1 := hX.cell 1 rfl
        have x2 := hX.cell 2 rfl
        have x3 := hX.cell 3 rfl
        have x4 := hX.cell 4 rfl
        have x5 := hX.cell 5 rfl
        have hp' := hp.lift (hWB.mono hN)
        have ha' := ha.lift (hWB.mono hN)
        have hNW := Nat.le_trans hN hWB.size
        have hO1 : Row W.heap.size W (.slice none 0 0) (hereX (namesOf p) false x.kind x.name) := by rw [HH.out]; exact OwnAt.nil _ _ _ _ _
        have hB1 : Below W.heap.size W W := Below.refl _ _
        go_wp2_with fail
        go_loopw [7, 39] (fun vo i wr => ∃ (k : Nat), k ≤ x.args.length ∧ i = .int .i64 k ∧ Row W.heap.size wr vo (inE (namesOf p) false (hereX (namesOf p) false x.kind x.name) (x.args.take k)) ∧ Below W.heap.size W wr) (fun _ i _ => x.args.length - (intOf i).toNat)
        case atStart => exact ⟨0, Nat.zero_le _, rfl, by simpa [inE] using hO1, hB1⟩
        case round =>
          obtain ⟨k, hk, rfl, hO, hB⟩ := hrel
          rename World => wr
          have hfin := hWB.trans (hB.mono hWB.size)
          by_cases hlt : k < x.args.length
          · obtain ⟨y, b, off, vy, hy, rfl, hb, hyw, hya, c0, c1, c2, c3, c4, c5⟩ := ExprsAt.at (ha'.lift (hB.mono hNW)) hlt
            have hmem := HS.out y (List.mem_of_getElem? hy)
            have hA' := hA.later hB
            have a0 := hA'.cell 0 rfl
            have a1 := hA'.cell 1 rfl
            have a2 := hA'.cell 2 rfl
            have a3 := hA'.cell 3 rfl
            have a4 := hA'.cell 4 rfl
            have a5 := hA'.cell 5 rfl
            obtain ⟨oy, cy, rfl, _, _, _⟩ := hya.slice
            go_upto_region 9 with fail
            have hY := Blk.new wr #[.int .i64 y.kind, .string y.name, .int .i16 y.value, .int .i64 y.op, .slice oy y.args.length cy, .int .i64 y.pos] 40
            have hZ := (Below.refl wr.heap.size wr).alloc (Nat.le_refl _) (.cells #[.int .i64 y.kind, .string y.name, .int .i16 y.value, .int .i64 y.op, .slice oy y.args.length cy, .int .i64 y.pos] 40)
            generalize wr.alloc (.cells #[.int .i64 y.kind, .string y.name, .int .i16 y.value, .int .i64 y.op, .slice oy y.args.length cy, .int .i64 y.pos] 40) = Z at hY hZ ⊢
            replace a0 := cell_later a0 hZ
            replace a1 := cell_later a1 hZ
            replace a2 := cell_later a2 hZ
            replace a3 := cell_later a3 hZ
            replace a4 := cell_later a4 hZ
            replace a5 := cell_later a5 hZ
            have y0 := hY.cell 0 rfl
            have y1 := hY.cell 1 rfl
            have y2 := hY.cell 2 rfl
            have y3 := hY.cell 3 rfl
            have y4 := hY.cell 4 rfl
            have y5 := hY.cell 5 rfl
            clear c0 c1 c2 c3 c4 c5
            have hBZ := hB.trans (hZ.mono hB.size)
            have hcall := ih y _ _ _ _ _ _ (.slice oy y.args.length cy) N Z hmem (hp'.lift (hBZ.mono hNW)) hyw (hya.lift (hZ.mono (Nat.le_trans hNW hB.size))) (Nat.le_trans hNW hBZ.size)
            have HC := Lib.hid hcall
            have HY := Lib.hid hy
            clear hy hmem hcall
            go_wp2_with (first
              | (go_at_call 102; refine HC.out.mono ?_; rintro e w2 ⟨⟨v2, rfl, hO2⟩, hB2⟩; have hOa := (hO.later hZ).later hB2; have hWw2 := Nat.le_trans hBZ.size hB2.size)
              | (go_at_call 29; refine (runion_any _ _ W.heap.size _ _ _ w2 hOa hO2 hWw2 (HGD.out k) (HGY.out y)).mono ?_; rintro e w3 ⟨⟨v3, rfl, hO3⟩, hB3⟩))
            go_roundw
            case rel => exact ⟨k + 1, by omega, by go_num, by rw [inE_take HY.out]; exact hO3, (hBZ.trans (hB2.mono hBZ.size)).trans (hB3.mono hWw2)⟩
            case measure => simp [intOf]; omega
          · have hkl : k = x.args.length := by omega
            subst hkl
            go_wp2_with fail
            go_ret
            refine ⟨⟨_, rfl, ?_⟩, hfin⟩
            rw [HE.out]
            have := OwnAt.base hO hWB.size
            rwa [List.take_length] at this
  · by_cases h4 : x.kind = 4
    · have t4 : (x.kind == 4) = true := beq_iff_eq.2 h4
      have HH := Lib.hid (show hereX (namesOf p) true x.kind x.name = namedR (namesOf p) x.name 4 4 by unfold hereX; rw [if_pos rfl, if_pos h4])
      clear h4
      go_enter Tryz.func102, Tryz.ntmps102
      go_upto_region 1 with fail
      obtain ⟨hA, hX⟩ := Blk.two w #[.slice o0 p.consts.length q0, .slice o1 p.globals.length q1, .slice o2 p.sensors.length q2, .slice o3 p.outputs.length q3, .slice o4 p.channels.length q4, .slice o5 p.tasks.length q5] 28 #[.int .i64 x.kind, .string x.name, .int .i16 x.value, .int .i64 x.op, .slice oa x.args.length ca, .int .i64 x.pos] 40
      have hWB := below_two w (.cells #[.slice o0 p.consts.length q0, .slice o1 p.globals.length q1, .slice o2 p.sensors.length q2, .slice o3 p.outputs.length q3, .slice o4 p.channels.length q4, .slice o5 p.tasks.length q5] 28) (.cells #[.int .i64 x.kind, .string x.name, .int .i16 x.value, .int .i64 x.op, .slice oa x.args.length ca, .int .i64 x.pos] 40)
      generalize ((w.alloc (.cells #[.slice o0 p.consts.length q0, .slice o1 p.globals.length q1, .slice o2 p.sensors.length q2, .slice o3 p.outputs.length q3, .slice o4 p.channels.length q4, .slice o5 p.tasks.length q5] 28)).alloc (.cells #[.int .i64 x.kind, .string x.name, .int .i16 x.value, .int .i64 x.op, .slice oa x.args.length ca, .int .i64 x.pos] 40)) = W at hA hX hWB ⊢
      have a0 := hA.cell 0 rfl
      have a1 := hA.cell 1 rfl
      have a2 := hA.cell 2 rfl
      have a3 := hA.cell 3 rfl
      have a4 := hA.cell 4 rfl
      have a5 := hA.cell 5 rfl
      have x0 := hX.cell 0 rfl
      have x1 := hX.cell 1 rfl
      have x2 := hX.cell 2 rfl
      have x3 := hX.cell 3 rfl
      have x4 := hX.cell 4 rfl
      have x5 := hX.cell 5 rfl
      have hp' := hp.lift (hWB.mono hN)
      have ha' := ha.lift (hWB.mono hN)
      have hNW := Nat.le_trans hN hWB.size
      go_wp2_with (go_at_call 56; refine (rnamed_any p _ _ _ _ _ _ _ _ _ N _ hp' hNW).mono ?_; rintro e w1 ⟨⟨vo, rfl, hO1⟩, hB1⟩; rw [← HH.out] at hO1; have z4 := (hX.later hB1).cell 4 rfl)
      go_loopw [7, 39] (fun vo i wr => ∃ (k : Nat), k ≤ x.args.length ∧ i = .int .i64 k ∧ Row W.heap.size wr vo (inE (namesOf p) true (hereX (namesOf p) true x.kind x.name) (x.args.take k)) ∧ Below W.heap.size W wr) (fun _ i _ => x.args.length - (intOf i).toNat)
      case atStart => exact ⟨0, Nat.zero_le _, rfl, by simpa [inE] using hO1, hB1⟩
      case round =>
        obtain ⟨k, hk, rfl, hO, hB⟩ := hrel
        rename World => wr
        have hfin := hWB.trans (hB.mono hWB.size)
        by_cases hlt : k < x.args.length
        · obtain ⟨y, b, off, vy, hy, rfl, hb, hyw, hya, c0, c1, c2, c3, c4, c5⟩ := ExprsAt.at (ha'.lift (hB.mono hNW)) hlt
          have hmem := HS.out y (List.mem_of_getElem? hy)
          have hA' := hA.later hB
          have a0 := hA'.cell 0 rfl
          have a1 := hA'.cell 1 rfl
          have a2 := hA'.cell 2 rfl
          have a3 := hA'.cell 3 rfl
          have a4 := hA'.cell 4 rfl
          have a5 := hA'.cell 5 rfl
          obtain ⟨oy, cy, rfl, _, _, _⟩ := hya.slice
          go_upto_region 9 with fail
          have hY := Blk.new wr #[.int .i64 y.kind, .string y.name, .int .i16 y.value, .int .i64 y.op, .slice oy y.args.length cy, .int .i64 y.pos] 40
          have hZ := (Below.refl wr.heap.size wr).alloc (Nat.le_refl _) (.cells #[.int .i64 y.kind, .string y.name, .int .i16 y.value, .int .i64 y.op, .slice oy y.args.length cy, .int .i64 y.pos] 40)
          generalize wr.alloc (.cells #[.int .i64 y.kind, .string y.name, .int .i16 y.value, .int .i64 y.op, .slice oy y.args.length cy, .int .i64 y.pos] 40) = Z at hY hZ ⊢
          replace a0 := cell_later a0 hZ
          replace a1 := cell_later a1 hZ
          replace a2 := cell_later a2 hZ
          replace a3 := cell_later a3 hZ
          replace a4 := cell_later a4 hZ
          replace a5 := cell_later a5 hZ
          have y0 := hY.cell 0 rfl
          have y1 := hY.cell 1 rfl
          have y2 := hY.cell 2 rfl
          have y3 := hY.cell 3 rfl
          have y4 := hY.cell 4 rfl
          have y5 := hY.cell 5 rfl
          clear c0 c1 c2 c3 c4 c5
          have hBZ := hB.trans (hZ.mono hB.size)
          have hcall := ih y _ _ _ _ _ _ (.slice oy y.args.length cy) N Z hmem (hp'.lift (hBZ.mono hNW)) hyw (hya.lift (hZ.mono (Nat.le_trans hNW hB.size))) (Nat.le_trans hNW hBZ.size)
          have HC := Lib.hid hcall
          have HY := Lib.hid hy
          clear hy hmem hcall
          go_wp2_with (first
            | (go_at_call 102; refine HC.out.mono ?_; rintro e w2 ⟨⟨v2, rfl, hO2⟩, hB2⟩; have hOa := (hO.later hZ).later hB2; have hWw2 := Nat.le_trans hBZ.size hB2.size)
            | (go_at_call 29; refine (runion_any _ _ W.heap.size _ _ _ w2 hOa hO2 hWw2 (HGD.out k) (HGY.out y)).mono ?_; rintro e w3 ⟨⟨v3, rfl, hO3⟩, hB3⟩))
          go_roundw
          case rel => exact ⟨k + 1, by omega, by go_num, by rw [inE_take HY.out]; exact hO3, (hBZ.trans (hB2.mono hBZ.size)).trans (hB3.mono hWw2)⟩
          case measure => simp [intOf]; omega
        · have hkl : k = x.args.length := by omega
          subst hkl
          go_wp2_with fail
          go_ret
          refine ⟨⟨_, rfl, ?_⟩, hfin⟩
          rw [HE.out]
          have := OwnAt.base hO hWB.size
          rwa [List.take_length] at this
    · have t4 : (x.kind == 4) = false := beq_eq_false_iff_ne.2 h4
      have HH := Lib.hid (show hereX (namesOf p) true x.kind x.name = [] by unfold hereX; rw [if_pos rfl, if_neg h4])
      clear h4
      go_enter Tryz.func102, Tryz.ntmps102
      go_upto_region 1 with fail
      obtain ⟨hA, hX⟩ := Blk.two w #[.slice o0 p.consts.length q0, .slice o1 p.globals.length q1, .slice o2 p.sensors.length q2, .slice o3 p.outputs.length q3, .slice o4 p.channels.length q4, .slice o5 p.tasks.length q5] 28 #[.int .i64 x.kind, .string x.name, .int .i16 x.value, .int .i64 x.op, .slice oa x.args.length ca, .int .i64 x.pos] 40
      have hWB := below_two w (.cells #[.slice o0 p.consts.length q0, .slice o1 p.globals.length q1, .slice o2 p.sensors.length q2, .slice o3 p.outputs.length q3, .slice o4 p.channels.length q4, .slice o5 p.tasks.length q5] 28) (.cells #[.int .i64 x.kind, .string x.name, .int .i16 x.value, .int .i64 x.op, .slice oa x.args.length ca, .int .i64 x.pos] 40)
      generalize ((w.alloc (.cells #[.slice o0 p.consts.length q0, .slice o1 p.globals.length q1, .slice o2 p.sensors.length q2, .slice o3 p.outputs.length q3, .slice o4 p.channels.length q4, .slice o5 p.tasks.length q5] 28)).alloc (.cells #[.int .i64 x.kind, .string x.name, .int .i16 x.value, .int .i64 x.op, .slice oa x.args.length ca, .int .i64 x.pos] 40)) = W at hA hX hWB ⊢
      have a0 := hA.cell 0 rfl
      have a1 := hA.cell 1 rfl
      have a2 := hA.cell 2 rfl
      have a3 := hA.cell 3 rfl
      have a4 := hA.cell 4 rfl
      have a5 := hA.cell 5 rfl
      have x0 := hX.cell 0 rfl
      have x1 := hX.cell 1 rfl
      have x2 := hX.cell 2 rfl
      have x3 := hX.cell 3 rfl
      have x4 := hX.cell 4 rfl
      have x5 := hX.cell 5 rfl
      have hp' := hp.lift (hWB.mono hN)
      have ha' := ha.lift (hWB.mono hN)
      have hNW := Nat.le_trans hN hWB.size
      have hO1 : Row W.heap.size W (.slice none 0 0) (hereX (namesOf p) true x.kind x.name) := by rw [HH.out]; exact OwnAt.nil _ _ _ _ _
      have hB1 : Below W.heap.size W W := Below.refl _ _
      go_wp2_with fail
      go_loopw [7, 39] (fun vo i wr => ∃ (k : Nat), k ≤ x.args.length ∧ i = .int .i64 k ∧ Row W.heap.size wr vo (inE (namesOf p) true (hereX (namesOf p) true x.kind x.name) (x.args.take k)) ∧ Below W.heap.size W wr) (fun _ i _ => x.args.length - (intOf i).toNat)
      case atStart => exact ⟨0, Nat.zero_le _, rfl, by simpa [inE] using hO1, hB1⟩
      case round =>
        obtain ⟨k, hk, rfl, hO, hB⟩ := hrel
        rename World => wr
        have hfin := hWB.trans (hB.mono hWB.size)
        by_cases hlt : k < x.args.length
        · obtain ⟨y, b, off, vy, hy, rfl, hb, hyw, hya, c0, c1, c2, c3, c4, c5⟩ := ExprsAt.at (ha'.lift (hB.mono hNW)) hlt
          have hmem := HS.out y (List.mem_of_getElem? hy)
          have hA' := hA.later hB
          have a0 := hA'.cell 0 rfl
          have a1 := hA'.cell 1 rfl
          have a2 := hA'.cell 2 rfl
          have a3 := hA'.cell 3 rfl
          have a4 := hA'.cell 4 rfl
          have a5 := hA'.cell 5 rfl
          obtain ⟨oy, cy, rfl, _, _, _⟩ := hya.slice
          go_upto_region 9 with fail
          have hY := Blk.new wr #[.int .i64 y.kind, .string y.name, .int .i16 y.value, .int .i64 y.op, .slice oy y.args.length cy, .int .i64 y.pos] 40
          have hZ := (Below.refl wr.heap.size wr).alloc (Nat.le_refl _) (.cells #[.int .i64 y.kind, .string y.name, .int .i16 y.value, .int .i64 y.op, .slice oy y.args.length cy, .int .i64 y.pos] 40)
          generalize wr.alloc (.cells #[.int .i64 y.kind, .string y.name, .int .i16 y.value, .int .i64 y.op, .slice oy y.args.length cy, .int .i64 y.pos] 40) = Z at hY hZ ⊢
          replace a0 := cell_later a0 hZ
          replace a1 := cell_later a1 hZ
          replace a2 := cell_later a2 hZ
          replace a3 := cell_later a3 hZ
          replace a4 := cell_later a4 hZ
          replace a5 := cell_later a5 hZ
          have y0 := hY.cell 0 rfl
          have y1 := hY.cell 1 rfl
          have y2 := hY.cell 2 rfl
          have y3 := hY.cell 3 rfl
          have y4 := hY.cell 4 rfl
          have y5 := hY.cell 5 rfl
          clear c0 c1 c2 c3 c4 c5
          have hBZ := hB.trans (hZ.mono hB.size)
          have hcall := ih y _ _ _ _ _ _ (.slice oy y.args.length cy) N Z hmem (hp'.lift (hBZ.mono hNW)) hyw (hya.lift (hZ.mono (Nat.le_trans hNW hB.size))) (Nat.le_trans hNW hBZ.size)
          have HC := Lib.hid hcall
          have HY := Lib.hid hy
          clear hy hmem hcall
          go_wp2_with (first
            | (go_at_call 102; refine HC.out.mono ?_; rintro e w2 ⟨⟨v2, rfl, hO2⟩, hB2⟩; have hOa := (hO.later hZ).later hB2; have hWw2 := Nat.le_trans hBZ.size hB2.size)
            | (go_at_call 29; refine (runion_any _ _ W.heap.size _ _ _ w2 hOa hO2 hWw2 (HGD.out k) (HGY.out y)).mono ?_; rintro e w3 ⟨⟨v3, rfl, hO3⟩, hB3⟩))
          go_roundw
          case rel => exact ⟨k + 1, by omega, by go_num, by rw [inE_take HY.out]; exact hO3, (hBZ.trans (hB2.mono hBZ.size)).trans (hB3.mono hWw2)⟩
          case measure => simp [intOf]; omega
        · have hkl : k = x.args.length := by omega
          subst hkl
          go_wp2_with fail
          go_ret
          refine ⟨⟨_, rfl, ?_⟩, hfin⟩
          rw [HE.out]
          have := OwnAt.base hO hWB.size
          rwa [List.take_length] at this
end Go.Proofs.YtkfdnlfkomhmfaaGreatDoor

namespace Go.Proofs.YtkfdnlfkomhmfaaGreatDoor
open Go.RowKit
set_option linter.unusedVariables false
set_option linter.unusedSimpArgs false

def Sp.row (B : Nat) (l : List Int) : Sp := ⟨fun v w => Row B w v l, fun _ _ _ h hb => OwnAt.later h hb⟩
theorem vlen14 {vs : List Value} (h : vs.length = 14) : ∃ u0 u1 u2 u3 u4 u5 u6 u7 u8 u9 u10 u11 u12 u13, vs = [u0, u1, u2, u3, u4, u5, u6, u7, u8, u9, u10, u11, u12, u13] := by
  obtain ⟨u0, t0, rfl⟩ := List.exists_cons_of_length_eq_add_one h
  replace h : t0.length = 13 := by simpa using h
  obtain ⟨u1, t1, rfl⟩ := List.exists_cons_of_length_eq_add_one h
  replace h : t1.length = 12 := by simpa using h
  obtain ⟨u2, t2, rfl⟩ := List.exists_cons_of_length_eq_add_one h
  replace h : t2.length = 11 := by simpa using h
  obtain ⟨u3, t3, rfl⟩ := List.exists_cons_of_length_eq_add_one h
  replace h : t3.length = 10 := by simpa using h
  obtain ⟨u4, t4, rfl⟩ := List.exists_cons_of_length_eq_add_one h
  replace h : t4.length = 9 := by simpa using h
  obtain ⟨u5, t5, rfl⟩ := List.exists_cons_of_length_eq_add_one h
  replace h : t5.length = 8 := by simpa using h
  obtain ⟨u6, t6, rfl⟩ := List.exists_cons_of_length_eq_add_one h
  replace h : t6.length = 7 := by simpa using h
  obtain ⟨u7, t7, rfl⟩ := List.exists_cons_of_length_eq_add_one h
  replace h : t7.length = 6 := by simpa using h
  obtain ⟨u8, t8, rfl⟩ := List.exists_cons_of_length_eq_add_one h
  replace h : t8.length = 5 := by simpa using h
  obtain ⟨u9, t9, rfl⟩ := List.exists_cons_of_length_eq_add_one h
  replace h : t9.length = 4 := by simpa using h
  obtain ⟨u10, t10, rfl⟩ := List.exists_cons_of_length_eq_add_one h
  replace h : t10.length = 3 := by simpa using h
  obtain ⟨u11, t11, rfl⟩ := List.exists_cons_of_length_eq_add_one h
  replace h : t11.length = 2 := by simpa using h
  obtain ⟨u12, t12, rfl⟩ := List.exists_cons_of_length_eq_add_one h
  replace h : t12.length = 1 := by simpa using h
  obtain ⟨u13, t13, rfl⟩ := List.exists_cons_of_length_eq_add_one h
  replace h : t13.length = 0 := by simpa using h
  obtain rfl := List.eq_nil_of_length_eq_zero h
  exact ⟨_, _, _, _, _, _, _, _, _, _, _, _, _, _, rfl⟩

set_option maxRecDepth 100000 in
set_option maxHeartbeats 8000000 in
theorem used_any (p : Prog) (hds : Idx (namesOf p)) (t : Bool) : ∀ (m : Nat) (l : List Stmt) (v0 v1 v2 v3 v4 v5 v : Value) (N : Nat) (w : World), sszs l < m → ProgAt N w v0 v1 v2 v3 v4 v5 p → StmtsAt N w v l → N ≤ w.heap.size →
    Calls Tryz.prog 54 #[.agg #[v0, v1, v2, v3, v4, v5], v, .bool t] w fun e w' => (∃ v', e = .returned v' ∧ Row w.heap.size w' v' (usS (namesOf p) t [] l)) ∧ Below w.heap.size w w' := by
  intro m
  induction m with
  | zero => intro l v0 v1 v2 v3 v4 v5 v N w hm; omega
  | succ m ih =>
  intro l v0 v1 v2 v3 v4 v5 v N w hm hp hl hN
  obtain ⟨o0, q0, rfl, _, _, n0⟩ := SliceAt.slice hp.consts
  obtain ⟨o1, q1, rfl, _, _, n1⟩ := SliceAt.slice hp.globals
  obtain ⟨o2, q2, rfl, _, _, n2⟩ := SliceAt.slice hp.sensors
  obtain ⟨o3, q3, rfl, _, _, n3⟩ := SliceAt.slice hp.outputs
  obtain ⟨o4, q4, rfl, _, _, n4⟩ := SliceAt.slice hp.channels
  obtain ⟨o5, q5, rfl, _, _, n5⟩ := hp.tasks.slice
  obtain ⟨ol, cl, rfl, _, _, nl⟩ := hl.slice
  have HGO := Lib.hid (fun k => good_usS hds t _ (l.take k) [] (Nat.le_refl _) Good.nil)
  have HGI := Lib.hid (fun (k : Nat) (es : List Expr) => good_inE hds t _ es (usS (namesOf p) t [] (l.take k)) (Nat.le_refl _) (good_usS hds t _ (l.take k) [] (Nat.le_refl _) Good.nil))
  have HGU := Lib.hid (fun (es : List Stmt) => good_usS hds t _ es [] (Nat.le_refl _) Good.nil)
  have HGY := Lib.hid (fun y : Expr => show Good (inX (namesOf p) t y) by rw [inX_eq]; exact good_inE hds t _ _ _ (Nat.le_refl _) (good_hereX hds _ _ _))
  have HX := Lib.hid (fun (x : Expr) => inExpr_any p hds t (esz x + 1) x)
  have HSZ := Lib.hid (show ∀ (k : Nat) (s : Stmt), l[k]? = some s → sszs s.body < m ∧ sszs s.els < m from fun k s hs => by
    have h1 := sszs_take hs
    have h2 := sszs_take_le l (k + 1)
    have h3 := ssz_eq s
    omega)
  clear hm hds
  go_enter Tryz.func54, Tryz.ntmps54
  go_upto_region 1 with fail
  have hA := Blk.new w #[.slice o0 p.consts.length q0, .slice o1 p.globals.length q1, .slice o2 p.sensors.length q2, .slice o3 p.outputs.length q3, .slice o4 p.channels.length q4, .slice o5 p.tasks.length q5] 28
  have hWB := (Below.refl w.heap.size w).alloc (Nat.le_refl _) (.cells #[.slice o0 p.consts.length q0, .slice o1 p.globals.length q1, .slice o2 p.sensors.length q2, .slice o3 p.outputs.length q3, .slice o4 p.channels.length q4, .slice o5 p.tasks.length q5] 28)
  generalize w.alloc (.cells #[.slice o0 p.consts.length q0, .slice o1 p.globals.length q1, .slice o2 p.sensors.length q2, .slice o3 p.outputs.length q3, .slice o4 p.channels.length q4, .slice o5 p.tasks.length q5] 28) = W at hA hWB ⊢
  have hp' := hp.lift (hWB.mono hN)
  have hl' := hl.lift (hWB.mono hN)
  have hNW := Nat.le_trans hN hWB.size
  go_wp2_with fail
  go_loopw [7, 14] (fun vo i wr => ∃ (k : Nat), k ≤ l.length ∧ i = .int .i64 k ∧ Row W.heap.size wr vo (usS (namesOf p) t [] (l.take k)) ∧ Below W.heap.size W wr) (fun _ i _ => l.length - (intOf i).toNat)
  case atStart => exact ⟨0, Nat.zero_le _, rfl, by simpa [usS] using (OwnAt.nil intCells 1 3 W.heap.size W), Below.refl _ _⟩
  case round =>
    obtain ⟨k, hk, rfl, hO, hB⟩ := hrel
    rename World => wr
    have hfin := hWB.trans (hB.mono hWB.size)
    by_cases hlt : k < l.length
    · obtain ⟨s, bs, off, va, vb, ve, hs, rfl, hbs, hwf, hsa, hsb, hse, c0, c1, c2, c3, c4, c5, c6⟩ := StmtsAt.at (hl'.lift (hB.mono hNW)) hlt
      obtain ⟨oa, ca, rfl, _, _, _⟩ := hsa.slice
      obtain ⟨ob, cb, rfl, _, _, _⟩ := hsb.slice
      obtain ⟨oe, ce, rfl, _, _, _⟩ := hse.slice
      have hsz := HSZ.out k s hs
      have HSB := Lib.hid hsz
      clear hsz
      go_upto_region 5 with fail
      have hS := Blk.new wr #[.int .i64 s.kind, .string s.name, .int .i64 s.n, .slice oa s.args.length ca, .slice ob s.body.length cb, .slice oe s.els.length ce, .int .i64 s.pos] 44
      have hZ := (Below.refl wr.heap.size wr).alloc (Nat.le_refl _) (.cells #[.int .i64 s.kind, .string s.name, .int .i64 s.n, .slice oa s.args.length ca, .slice ob s.body.length cb, .slice oe s.els.length ce, .int .i64 s.pos] 44)
      generalize wr.alloc (.cells #[.int .i64 s.kind, .string s.name, .int .i64 s.n, .slice oa s.args.length ca, .slice ob s.body.length cb, .slice oe s.els.length ce, .int .i64 s.pos] 44) = Z at hS hZ ⊢
      clear c0 c1 c2 c3 c4 c5 c6
      have hBZ := hB.trans (hZ.mono hB.size)
      have HS := Lib.hid hs
      clear hs
      have hOZ := hO.later hZ
      have s3 := hS.cell 3 rfl
      go_wp2_with fail
      go_loopw [7, 21] (fun vo i wr => ∃ (j : Nat), j ≤ s.args.length ∧ i = .int .i64 j ∧ Row W.heap.size wr vo (inE (namesOf p) t (usS (namesOf p) t [] (l.take k)) (s.args.take j)) ∧ Below Z.heap.size Z wr) (fun _ i _ => s.args.length - (intOf i).toNat)
      case atStart => exact ⟨0, Nat.zero_le _, rfl, by simpa [inE] using hOZ, Below.refl _ _⟩
      case round =>
        obtain ⟨j, hj, rfl, hOi, hBi⟩ := hrel
        rename World => wi
        have hBWi := hBZ.trans (hBi.mono hBZ.size)
        have hAi := (hA.later hBWi)
        have hSi := (hS.later hBi)
        by_cases hjt : j < s.args.length
        · obtain ⟨y, b, offy, vy, hy, rfl, hb, hyw, hya, d0, d1, d2, d3, d4, d5⟩ := ExprsAt.at (hsa.lift ((hZ.mono (Nat.le_trans hNW hB.size)).trans (hBi.mono (Nat.le_trans hNW hBZ.size)))) hjt
          obtain ⟨oy, cy, rfl, _, _, _⟩ := hya.slice
          go_upto_region 8 with fail
          have hY := Blk.new wi #[.int .i64 y.kind, .string y.name, .int .i16 y.value, .int .i64 y.op, .slice oy y.args.length cy, .int .i64 y.pos] 40
          have hV := (Below.refl wi.heap.size wi).alloc (Nat.le_refl _) (.cells #[.int .i64 y.kind, .string y.name, .int .i16 y.value, .int .i64 y.op, .slice oy y.args.length cy, .int .i64 y.pos] 40)
          generalize wi.alloc (.cells #[.int .i64 y.kind, .string y.name, .int .i16 y.value, .int .i64 y.op, .slice oy y.args.length cy, .int .i64 y.pos] 40) = V at hY hV ⊢
          have hAV := hAi.later hV
          have a0 := hAV.cell 0 rfl
          have a1 := hAV.cell 1 rfl
          have a2 := hAV.cell 2 rfl
          have a3 := hAV.cell 3 rfl
          have a4 := hAV.cell 4 rfl
          have a5 := hAV.cell 5 rfl
          have y0 := hY.cell 0 rfl
          have y1 := hY.cell 1 rfl
          have y2 := hY.cell 2 rfl
          have y3 := hY.cell 3 rfl
          have y4 := hY.cell 4 rfl
          have y5 := hY.cell 5 rfl
          clear d0 d1 d2 d3 d4 d5
          have hBV := hBWi.trans (hV.mono hBWi.size)
          have hcall := HX.out y _ _ _ _ _ _ (.slice oy y.args.length cy) N V (Nat.lt_succ_self _) (hp'.lift (hBV.mono hNW)) hyw (hya.lift (hV.mono (Nat.le_trans hNW hBWi.size))) (Nat.le_trans hNW hBV.size)
          have HC := Lib.hid hcall
          have HY := Lib.hid hy
          clear hy hcall
          go_wp2_with (first
            | (go_at_call 102; refine HC.out.mono ?_; rintro e w2 ⟨⟨v2, rfl, hO2⟩, hB2⟩; have hOa := (hOi.later hV).later hB2; have hWw2 := Nat.le_trans hBV.size hB2.size)
            | (go_at_call 29; refine (runion_any _ _ W.heap.size _ _ _ w2 hOa hO2 hWw2 (HGI.out k (s.args.take j)) (HGY.out y)).mono ?_; rintro e w3 ⟨⟨v3, rfl, hO3⟩, hB3⟩))
          go_roundw
          case rel => exact ⟨j + 1, by omega, by go_num, by rw [inE_take HY.out]; exact hO3, (hBi.trans (hV.mono hBi.size)).trans ((hB2.mono (Nat.le_trans hBi.size hV.size)).trans (hB3.mono (Nat.le_trans (Nat.le_trans hBi.size hV.size) hB2.size)))⟩
          case measure => simp [intOf]; omega
        · have hje : j = s.args.length := by omega
          subst hje
          rw [List.take_length] at hOi
          have hpi := hp'.lift (hBWi.mono hNW)
          have hNi := Nat.le_trans hNW hBWi.size
          have hsbi := hsb.lift ((hZ.mono (Nat.le_trans hNW hB.size)).trans (hBi.mono (Nat.le_trans hNW hBZ.size)))
          have hsei := hse.lift ((hZ.mono (Nat.le_trans hNW hB.size)).trans (hBi.mono (Nat.le_trans hNW hBZ.size)))
          have hWi := hBWi.size
          obtain ⟨ovi, cvi, rfl, _, _⟩ := hOi.slice
          go_wp2_with fail
          refine wp_region_spec [Sp.is (.slice ovi (inE (namesOf p) t (usS (namesOf p) t [] (l.take k)) s.args).length cvi), Sp.is (.agg #[.slice o0 p.consts.length q0, .slice o1 p.globals.length q1, .slice o2 p.sensors.length q2, .slice o3 p.outputs.length q3, .slice o4 p.channels.length q4, .slice o5 p.tasks.length q5]), Sp.is (.pointer (some ⟨wr.heap.size, 4, none⟩)), Sp.is (.slice ob s.body.length cb), Sp.is (.bool t), Sp.row W.heap.size (usS (namesOf p) t [] s.body), Sp.row W.heap.size (unionR (inE (namesOf p) t (usS (namesOf p) t [] (l.take k)) s.args) (usS (namesOf p) t [] s.body)), Sp.is (.agg #[.slice o0 p.consts.length q0, .slice o1 p.globals.length q1, .slice o2 p.sensors.length q2, .slice o3 p.outputs.length q3, .slice o4 p.channels.length q4, .slice o5 p.tasks.length q5]), Sp.is (.pointer (some ⟨wr.heap.size, 5, none⟩)), Sp.is (.slice oe s.els.length ce), Sp.is (.bool t), Sp.row W.heap.size (usS (namesOf p) t [] s.els), Sp.row W.heap.size (unionR (unionR (inE (namesOf p) t (usS (namesOf p) t [] (l.take k)) s.args) (usS (namesOf p) t [] s.body)) (usS (namesOf p) t [] s.els)), Sp.row W.heap.size (unionR (unionR (inE (namesOf p) t (usS (namesOf p) t [] (l.take k)) s.args) (usS (namesOf p) t [] s.body)) (usS (namesOf p) t [] s.els))] mixed (by kernel_rfl) (by kernel_rfl) rfl (by kernel_rfl) ?step ?fin
          case step =>
            intro vs W9 hvl hVB
            obtain ⟨u0, u1, u2, u3, u4, u5, u6, u7, u8, u9, u10, u11, u12, u13, rfl⟩ := vlen14 hvl
            have hB9 := hVB
            have hBV := hBWi.trans (hB9.mono hWi)
            have hAV := hAi.later hB9
            have hSV := hSi.later hB9
            have a0 := hAV.cell 0 rfl
            have a1 := hAV.cell 1 rfl
            have a2 := hAV.cell 2 rfl
            have a3 := hAV.cell 3 rfl
            have a4 := hAV.cell 4 rfl
            have a5 := hAV.cell 5 rfl
            have s4 := hSV.cell 4 rfl
            have s5 := hSV.cell 5 rfl
            have hpV := hpi.lift (hB9.mono hNi)
            have hNV := Nat.le_trans hNi hB9.size
            simp only [frameOf, List.zip_cons_cons, List.zip_nil_left, List.foldl_cons, List.foldl_nil, Act.put, List.setIfInBounds_toArray, List.set_cons_succ, List.set_cons_zero]
            refine ⟨fun hd ho => ?_, fun hd ho => ?_, fun hd ho => ?_, fun hd ho => ?_, fun hd ho => ?_, fun hd ho => ?_, fun hd ho => ?_, fun hd ho => ?_, fun hd ho => ?_, fun hd ho => ?_, fun hd ho => ?_, fun hd ho => ?_, fun hd ho => ?_, fun hd ho => ?_, trivial⟩
            · have h13 := ho 13 _ rfl (by rfl)
              change u13 = _ at h13
              subst h13
              go_wp2_with fail
              exact ⟨rfl, _, rfl, Below.refl _ _, rfl⟩
            · go_wp2_with fail
              exact ⟨rfl, _, rfl, Below.refl _ _, rfl⟩
            · go_wp2_with fail
              exact ⟨rfl, _, rfl, Below.refl _ _, rfl⟩
            · have h2 := hd.1 rfl
              change u2 = _ at h2
              subst h2
              go_wp2_with fail
              exact ⟨rfl, _, rfl, Below.refl _ _, rfl⟩
            · go_wp2_with fail
              exact ⟨rfl, _, rfl, Below.refl _ _, rfl⟩
            · have h1 := hd.1 rfl
              change u1 = _ at h1
              subst h1
              have h3 := hd.2.1 rfl
              change u3 = _ at h3
              subst h3
              have h4 := hd.2.2.1 rfl
              change u4 = _ at h4
              subst h4
              go_wp2_with (go_at_call 54; refine (ih s.body _ _ _ _ _ _ _ N _ HSB.out.1 hpV (hsbi.lift (hB9.mono hNi)) hNV).mono ?_; rintro e w2 ⟨⟨v2, rfl, hO2⟩, hB2⟩)
              exact ⟨rfl, v2, rfl, hB2, OwnAt.base hO2 hBV.size⟩
            · have h0 := hd.1 rfl
              change u0 = _ at h0
              subst h0
              have h5 := hd.2.1 rfl
              change Row _ _ u5 _ at h5
              go_wp2_with (go_at_call 29; refine (runion_any _ _ W.heap.size _ _ _ W9 (hOi.later hB9) h5 hBV.size (HGI.out k s.args) (HGU.out s.body)).mono ?_; rintro e w2 ⟨⟨v2, rfl, hO2⟩, hB2⟩)
              exact ⟨rfl, v2, rfl, hB2, hO2⟩
            · go_wp2_with fail
              exact ⟨rfl, _, rfl, Below.refl _ _, rfl⟩
            · go_wp2_with fail
              exact ⟨rfl, _, rfl, Below.refl _ _, rfl⟩
            · have h8 := hd.1 rfl
              change u8 = _ at h8
              subst h8
              go_wp2_with fail
              exact ⟨rfl, _, rfl, Below.refl _ _, rfl⟩
            · go_wp2_with fail
              exact ⟨rfl, _, rfl, Below.refl _ _, rfl⟩
            · have h7 := hd.1 rfl
              change u7 = _ at h7
              subst h7
              have h9 := hd.2.1 rfl
              change u9 = _ at h9
              subst h9
              have h10 := hd.2.2.1 rfl
              change u10 = _ at h10
              subst h10
              go_wp2_with (go_at_call 54; refine (ih s.els _ _ _ _ _ _ _ N _ HSB.out.2 hpV (hsei.lift (hB9.mono hNi)) hNV).mono ?_; rintro e w2 ⟨⟨v2, rfl, hO2⟩, hB2⟩)
              exact ⟨rfl, v2, rfl, hB2, OwnAt.base hO2 hBV.size⟩
            · have h6 := hd.1 rfl
              change Row _ _ u6 _ at h6
              have h11 := hd.2.1 rfl
              change Row _ _ u11 _ at h11
              go_wp2_with (go_at_call 29; refine (runion_any _ _ W.heap.size _ _ _ W9 h6 h11 hBV.size ((HGI.out k s.args).union (HGU.out s.body)) (HGU.out s.els)).mono ?_; rintro e w2 ⟨⟨v2, rfl, hO2⟩, hB2⟩)
              exact ⟨rfl, v2, rfl, hB2, hO2⟩
            · have h12 := hd.1 rfl
              change Row _ _ u12 _ at h12
              go_wp2_with fail
              exact ⟨rfl, _, rfl, Below.refl _ _, h12⟩
          case fin =>
            intro vs W9 hvl hVB hall
            obtain ⟨u0, u1, u2, u3, u4, u5, u6, u7, u8, u9, u10, u11, u12, u13, rfl⟩ := vlen14 hvl
            simp only [frameOf, List.zip_cons_cons, List.zip_nil_left, List.foldl_cons, List.foldl_nil, Act.put, List.setIfInBounds_toArray, List.set_cons_succ, List.set_cons_zero]
            have h13 := hall.2.2.2.2.2.2.2.2.2.2.2.2.2.1
            change Row _ _ u13 _ at h13
            have hB9 := hVB
            have hBV := hBWi.trans (hB9.mono hWi)
            clear hall
            go_wp2_with fail
            go_roundw
            case rel => exact ⟨k + 1, by omega, by go_num, by rw [usS_take HS.out, usX_eq]; exact h13, hBV⟩
            case measure => simp [intOf]; omega
    · have hkl : k = l.length := by omega
      subst hkl
      go_wp2_with fail
      go_ret
      refine ⟨⟨_, rfl, ?_⟩, hfin⟩
      have := OwnAt.base hO hWB.size
      simp only [List.take_length] at this ⊢
      exact this
theorem vlen12 {vs : List Value} (h : vs.length = 12) : ∃ u0 u1 u2 u3 u4 u5 u6 u7 u8 u9 u10 u11, vs = [u0, u1, u2, u3, u4, u5, u6, u7, u8, u9, u10, u11] := by
  obtain ⟨u0, t0, rfl⟩ := List.exists_cons_of_length_eq_add_one h
  replace h : t0.length = 11 := by simpa using h
  obtain ⟨u1, t1, rfl⟩ := List.exists_cons_of_length_eq_add_one h
  replace h : t1.length = 10 := by simpa using h
  obtain ⟨u2, t2, rfl⟩ := List.exists_cons_of_length_eq_add_one h
  replace h : t2.length = 9 := by simpa using h
  obtain ⟨u3, t3, rfl⟩ := List.exists_cons_of_length_eq_add_one h
  replace h : t3.length = 8 := by simpa using h
  obtain ⟨u4, t4, rfl⟩ := List.exists_cons_of_length_eq_add_one h
  replace h : t4.length = 7 := by simpa using h
  obtain ⟨u5, t5, rfl⟩ := List.exists_cons_of_length_eq_add_one h
  replace h : t5.length = 6 := by simpa using h
  obtain ⟨u6, t6, rfl⟩ := List.exists_cons_of_length_eq_add_one h
  replace h : t6.length = 5 := by simpa using h
  obtain ⟨u7, t7, rfl⟩ := List.exists_cons_of_length_eq_add_one h
  replace h : t7.length = 4 := by simpa using h
  obtain ⟨u8, t8, rfl⟩ := List.exists_cons_of_length_eq_add_one h
  replace h : t8.length = 3 := by simpa using h
  obtain ⟨u9, t9, rfl⟩ := List.exists_cons_of_length_eq_add_one h
  replace h : t9.length = 2 := by simpa using h
  obtain ⟨u10, t10, rfl⟩ := List.exists_cons_of_length_eq_add_one h
  replace h : t10.length = 1 := by simpa using h
  obtain ⟨u11, t11, rfl⟩ := List.exists_cons_of_length_eq_add_one h
  replace h : t11.length = 0 := by simpa using h
  obtain rfl := List.eq_nil_of_length_eq_zero h
  exact ⟨_, _, _, _, _, _, _, _, _, _, _, _, rfl⟩

set_option maxRecDepth 100000 in
set_option maxHeartbeats 8000000 in
theorem rWrites_any (p : Prog) (hds : Idx (namesOf p)) : ∀ (m : Nat) (l : List Stmt) (v0 v1 v2 v3 v4 v5 v : Value) (N : Nat) (w : World), sszs l < m → ProgAt N w v0 v1 v2 v3 v4 v5 p → StmtsAt N w v l → N ≤ w.heap.size →
    Calls Tryz.prog 26 #[.agg #[v0, v1, v2, v3, v4, v5], v] w fun e w' => (∃ v', e = .returned v' ∧ Row w.heap.size w' v' (wrS (namesOf p) [] l)) ∧ Below w.heap.size w w' := by
  intro m
  induction m with
  | zero => intro l v0 v1 v2 v3 v4 v5 v N w hm; omega
  | succ m ih =>
  intro l v0 v1 v2 v3 v4 v5 v N w hm hp hl hN
  obtain ⟨o0, q0, rfl, _, _, n0⟩ := SliceAt.slice hp.consts
  obtain ⟨o1, q1, rfl, _, _, n1⟩ := SliceAt.slice hp.globals
  obtain ⟨o2, q2, rfl, _, _, n2⟩ := SliceAt.slice hp.sensors
  obtain ⟨o3, q3, rfl, _, _, n3⟩ := SliceAt.slice hp.outputs
  obtain ⟨o4, q4, rfl, _, _, n4⟩ := SliceAt.slice hp.channels
  obtain ⟨o5, q5, rfl, _, _, n5⟩ := hp.tasks.slice
  obtain ⟨ol, cl, rfl, _, _, nl⟩ := hl.slice
  have HGO := Lib.hid (fun k => good_wrS hds _ (l.take k) [] (Nat.le_refl _) Good.nil)
  have HGU := Lib.hid (fun (es : List Stmt) => good_wrS hds _ es [] (Nat.le_refl _) Good.nil)
  have HGH := Lib.hid (fun (s : Stmt) => good_hereW hds s.kind s.name)
  have HSZ := Lib.hid (show ∀ (k : Nat) (s : Stmt), l[k]? = some s → sszs s.body < m ∧ sszs s.els < m from fun k s hs => by
    have h1 := sszs_take hs
    have h2 := sszs_take_le l (k + 1)
    have h3 := ssz_eq s
    omega)
  clear hm hds
  go_enter Tryz.func26, Tryz.ntmps26
  go_upto_region 1 with fail
  have hA := Blk.new w #[.slice o0 p.consts.length q0, .slice o1 p.globals.length q1, .slice o2 p.sensors.length q2, .slice o3 p.outputs.length q3, .slice o4 p.channels.length q4, .slice o5 p.tasks.length q5] 28
  have hWB := (Below.refl w.heap.size w).alloc (Nat.le_refl _) (.cells #[.slice o0 p.consts.length q0, .slice o1 p.globals.length q1, .slice o2 p.sensors.length q2, .slice o3 p.outputs.length q3, .slice o4 p.channels.length q4, .slice o5 p.tasks.length q5] 28)
  generalize w.alloc (.cells #[.slice o0 p.consts.length q0, .slice o1 p.globals.length q1, .slice o2 p.sensors.length q2, .slice o3 p.outputs.length q3, .slice o4 p.channels.length q4, .slice o5 p.tasks.length q5] 28) = W at hA hWB ⊢
  have hp' := hp.lift (hWB.mono hN)
  have hl' := hl.lift (hWB.mono hN)
  have hNW := Nat.le_trans hN hWB.size
  go_wp2_with fail
  go_loopw [5, 10] (fun vo i wr => ∃ (k : Nat), k ≤ l.length ∧ i = .int .i64 k ∧ Row W.heap.size wr vo (wrS (namesOf p) [] (l.take k)) ∧ Below W.heap.size W wr) (fun _ i _ => l.length - (intOf i).toNat)
  case atStart => exact ⟨0, Nat.zero_le _, rfl, by simpa [wrS] using (OwnAt.nil intCells 1 3 W.heap.size W), Below.refl _ _⟩
  case round =>
    obtain ⟨k, hk, rfl, hO, hB⟩ := hrel
    rename World => wr
    obtain ⟨ov, cv, rfl, _, _⟩ := hO.slice
    have hfin := hWB.trans (hB.mono hWB.size)
    by_cases hlt : k < l.length
    · obtain ⟨s, bs, off, va, vb, ve, hs, rfl, hbs, hwf, hsa, hsb, hse, c0, c1, c2, c3, c4, c5, c6⟩ := StmtsAt.at (hl'.lift (hB.mono hNW)) hlt
      obtain ⟨oa, ca, rfl, _, _, _⟩ := hsa.slice
      obtain ⟨ob, cb, rfl, _, _, _⟩ := hsb.slice
      obtain ⟨oe, ce, rfl, _, _, _⟩ := hse.slice
      have HSB := Lib.hid (HSZ.out k s hs)
      go_upto_region 5 with fail
      have hS := Blk.new wr #[.int .i64 s.kind, .string s.name, .int .i64 s.n, .slice oa s.args.length ca, .slice ob s.body.length cb, .slice oe s.els.length ce, .int .i64 s.pos] 44
      have hZ := (Below.refl wr.heap.size wr).alloc (Nat.le_refl _) (.cells #[.int .i64 s.kind, .string s.name, .int .i64 s.n, .slice oa s.args.length ca, .slice ob s.body.length cb, .slice oe s.els.length ce, .int .i64 s.pos] 44)
      generalize wr.alloc (.cells #[.int .i64 s.kind, .string s.name, .int .i64 s.n, .slice oa s.args.length ca, .slice ob s.body.length cb, .slice oe s.els.length ce, .int .i64 s.pos] 44) = Z at hS hZ ⊢
      clear c0 c1 c2 c3 c4 c5 c6
      have hBZ := hB.trans (hZ.mono hB.size)
      have HS := Lib.hid hs
      clear hs
      have hOZ := hO.later hZ
      have s0 := hS.cell 0 rfl
      have s1 := hS.cell 1 rfl
      have hpZ := hp'.lift (hBZ.mono hNW)
      have hNZ := Nat.le_trans hNW hBZ.size
      have hAZ := hA.later hBZ
      have a0 := hAZ.cell 0 rfl
      have a1 := hAZ.cell 1 rfl
      have a2 := hAZ.cell 2 rfl
      have a3 := hAZ.cell 3 rfl
      have a4 := hAZ.cell 4 rfl
      have a5 := hAZ.cell 5 rfl
      by_cases h2 : s.kind = 2
      · have t2 : (s.kind == 2) = true := beq_iff_eq.2 h2
        have HH := Lib.hid (show hereW (namesOf p) s.kind s.name = namedR (namesOf p) s.name 2 3 by unfold hereW; rw [if_pos (.inl h2)])
        clear h2
        go_wp2_with (first
          | (go_at_call 56; refine (rnamed_any p _ _ _ _ _ _ _ _ _ N _ hpZ hNZ).mono ?_; rintro e w1 ⟨⟨v1, rfl, hO1⟩, hB1⟩; rw [← HH.out] at hO1; have hOa := hOZ.later hB1; have hWw1 := Nat.le_trans hBZ.size hB1.size)
          | (go_at_call 29; refine (runion_any _ _ W.heap.size _ _ _ w1 hOa hO1 hWw1 (HGO.out k) (HGH.out s)).mono ?_; rintro e wQ ⟨⟨vq, rfl, hOQ⟩, hB2⟩; have hZQ := hZ.trans ((hB1.mono hZ.size).trans (hB2.mono (Nat.le_trans hZ.size hB1.size))); have hBQ := hB.trans (hZQ.mono hB.size); have hSQ := (hS.later hB1).later hB2))
        have hAQ := hA.later hBQ
        have hpQ := hp'.lift (hBQ.mono hNW)
        have hNQ := Nat.le_trans hNW hBQ.size
        have hsbQ := hsb.lift (hZQ.mono (Nat.le_trans hNW hB.size))
        have hseQ := hse.lift (hZQ.mono (Nat.le_trans hNW hB.size))
        have hWQ := hBQ.size
        refine wp_region_spec [Sp.is vq, Sp.is (.agg #[.slice o0 p.consts.length q0, .slice o1 p.globals.length q1, .slice o2 p.sensors.length q2, .slice o3 p.outputs.length q3, .slice o4 p.channels.length q4, .slice o5 p.tasks.length q5]), Sp.is (.pointer (some ⟨wr.heap.size, 4, none⟩)), Sp.is (.slice ob s.body.length cb), Sp.row W.heap.size (wrS (namesOf p) [] s.body), Sp.row W.heap.size (unionR (unionR (wrS (namesOf p) [] (l.take k)) (hereW (namesOf p) s.kind s.name)) (wrS (namesOf p) [] s.body)), Sp.is (.agg #[.slice o0 p.consts.length q0, .slice o1 p.globals.length q1, .slice o2 p.sensors.length q2, .slice o3 p.outputs.length q3, .slice o4 p.channels.length q4, .slice o5 p.tasks.length q5]), Sp.is (.pointer (some ⟨wr.heap.size, 5, none⟩)), Sp.is (.slice oe s.els.length ce), Sp.row W.heap.size (wrS (namesOf p) [] s.els), Sp.row W.heap.size (unionR (unionR (unionR (wrS (namesOf p) [] (l.take k)) (hereW (namesOf p) s.kind s.name)) (wrS (namesOf p) [] s.body)) (wrS (namesOf p) [] s.els)), Sp.row W.heap.size (unionR (unionR (unionR (wrS (namesOf p) [] (l.take k)) (hereW (namesOf p) s.kind s.name)) (wrS (namesOf p) [] s.body)) (wrS (namesOf p) [] s.els))] mixed (by kernel_rfl) (by kernel_rfl) rfl (by kernel_rfl) ?step ?fin
        case step =>
          intro vs W9 hvl hVB
          obtain ⟨u0, u1, u2, u3, u4, u5, u6, u7, u8, u9, u10, u11, rfl⟩ := vlen12 hvl
          have hB9 := hVB
          have hBV := hBQ.trans (hB9.mono hWQ)
          have hAV := hAQ.later hB9
          have hSV := hSQ.later hB9
          have a0 := hAV.cell 0 rfl
          have a1 := hAV.cell 1 rfl
          have a2 := hAV.cell 2 rfl
          have a3 := hAV.cell 3 rfl
          have a4 := hAV.cell 4 rfl
          have a5 := hAV.cell 5 rfl
          have s4 := hSV.cell 4 rfl
          have s5 := hSV.cell 5 rfl
          have hpV := hpQ.lift (hB9.mono hNQ)
          have hNV := Nat.le_trans hNQ hB9.size
          simp only [frameOf, List.zip_cons_cons, List.zip_nil_left, List.foldl_cons, List.foldl_nil, Act.put, List.setIfInBounds_toArray, List.set_cons_succ, List.set_cons_zero]
          refine ⟨fun hd ho => ?_, fun hd ho => ?_, fun hd ho => ?_, fun hd ho => ?_, fun hd ho => ?_, fun hd ho => ?_, fun hd ho => ?_, fun hd ho => ?_, fun hd ho => ?_, fun hd ho => ?_, fun hd ho => ?_, fun hd ho => ?_, trivial⟩
          · have h11 := ho 11 _ rfl (by rfl)
            change u11 = _ at h11
            subst h11
            go_wp2_with fail
            exact ⟨rfl, _, rfl, Below.refl _ _, rfl⟩
          · go_wp2_with fail
            exact ⟨rfl, _, rfl, Below.refl _ _, rfl⟩
          · go_wp2_with fail
            exact ⟨rfl, _, rfl, Below.refl _ _, rfl⟩
          · have h2 := hd.1 rfl
            change u2 = _ at h2
            subst h2
            go_wp2_with fail
            exact ⟨rfl, _, rfl, Below.refl _ _, rfl⟩
          · have h1 := hd.1 rfl
            change u1 = _ at h1
            subst h1
            have h3 := hd.2.1 rfl
            change u3 = _ at h3
            subst h3
            go_wp2_with (go_at_call 26; refine (ih s.body _ _ _ _ _ _ _ N _ HSB.out.1 hpV (hsbQ.lift (hB9.mono hNQ)) hNV).mono ?_; rintro e w2 ⟨⟨v2, rfl, hO2⟩, hB2⟩)
            exact ⟨rfl, v2, rfl, hB2, OwnAt.base hO2 hBV.size⟩
          · have h0 := hd.1 rfl
            change u0 = _ at h0
            subst h0
            have h4 := hd.2.1 rfl
            change Row _ _ u4 _ at h4
            go_wp2_with (go_at_call 29; refine (runion_any _ _ W.heap.size _ _ _ W9 (hOQ.later hB9) h4 hBV.size ((HGO.out k).union (HGH.out s)) (HGU.out s.body)).mono ?_; rintro e w2 ⟨⟨v2, rfl, hO2⟩, hB2⟩)
            exact ⟨rfl, v2, rfl, hB2, hO2⟩
          · go_wp2_with fail
            exact ⟨rfl, _, rfl, Below.refl _ _, rfl⟩
          · go_wp2_with fail
            exact ⟨rfl, _, rfl, Below.refl _ _, rfl⟩
          · have h7 := hd.1 rfl
            change u7 = _ at h7
            subst h7
            go_wp2_with fail
            exact ⟨rfl, _, rfl, Below.refl _ _, rfl⟩
          · have h6 := hd.1 rfl
            change u6 = _ at h6
            subst h6
            have h8 := hd.2.1 rfl
            change u8 = _ at h8
            subst h8
            go_wp2_with (go_at_call 26; refine (ih s.els _ _ _ _ _ _ _ N _ HSB.out.2 hpV (hseQ.lift (hB9.mono hNQ)) hNV).mono ?_; rintro e w2 ⟨⟨v2, rfl, hO2⟩, hB2⟩)
            exact ⟨rfl, v2, rfl, hB2, OwnAt.base hO2 hBV.size⟩
          · have h5 := hd.1 rfl
            change Row _ _ u5 _ at h5
            have h9 := hd.2.1 rfl
            change Row _ _ u9 _ at h9
            go_wp2_with (go_at_call 29; refine (runion_any _ _ W.heap.size _ _ _ W9 h5 h9 hBV.size (((HGO.out k).union (HGH.out s)).union (HGU.out s.body)) (HGU.out s.els)).mono ?_; rintro e w2 ⟨⟨v2, rfl, hO2⟩, hB2⟩)
            exact ⟨rfl, v2, rfl, hB2, hO2⟩
          · have h10 := hd.1 rfl
            change Row _ _ u10 _ at h10
            go_wp2_with fail
            exact ⟨rfl, _, rfl, Below.refl _ _, h10⟩
        case fin =>
          intro vs W9 hvl hVB hall
          obtain ⟨u0, u1, u2, u3, u4, u5, u6, u7, u8, u9, u10, u11, rfl⟩ := vlen12 hvl
          simp only [frameOf, List.zip_cons_cons, List.zip_nil_left, List.foldl_cons, List.foldl_nil, Act.put, List.setIfInBounds_toArray, List.set_cons_succ, List.set_cons_zero]
          have h11 := hall.2.2.2.2.2.2.2.2.2.2.2.1
          change Row _ _ u11 _ at h11
          have hB9 := hVB
          have hBV := hBQ.trans (hB9.mono hWQ)
          clear hall
          go_wp2_with fail
          go_roundw
          case rel => exact ⟨k + 1, by omega, by go_num, by rw [wrS_take HS.out, wrX_eq]; exact h11, hBV⟩
          case measure => simp [intOf]; omega
      · by_cases h3 : s.kind = 3
        · have t2 : (s.kind == 2) = false := beq_eq_false_iff_ne.2 h2
          have t3 : (s.kind == 3) = true := beq_iff_eq.2 h3
          have HH := Lib.hid (show hereW (namesOf p) s.kind s.name = namedR (namesOf p) s.name 2 3 by unfold hereW; rw [if_pos (.inr h3)])
          clear h2 h3
          go_wp2_with (first
            | (go_at_call 56; refine (rnamed_any p _ _ _ _ _ _ _ _ _ N _ hpZ hNZ).mono ?_; rintro e w1 ⟨⟨v1, rfl, hO1⟩, hB1⟩; rw [← HH.out] at hO1; have hOa := hOZ.later hB1; have hWw1 := Nat.le_trans hBZ.size hB1.size)
            | (go_at_call 29; refine (runion_any _ _ W.heap.size _ _ _ w1 hOa hO1 hWw1 (HGO.out k) (HGH.out s)).mono ?_; rintro e wQ ⟨⟨vq, rfl, hOQ⟩, hB2⟩; have hZQ := hZ.trans ((hB1.mono hZ.size).trans (hB2.mono (Nat.le_trans hZ.size hB1.size))); have hBQ := hB.trans (hZQ.mono hB.size); have hSQ := (hS.later hB1).later hB2))
          have hAQ := hA.later hBQ
          have hpQ := hp'.lift (hBQ.mono hNW)
          have hNQ := Nat.le_trans hNW hBQ.size
          have hsbQ := hsb.lift (hZQ.mono (Nat.le_trans hNW hB.size))
          have hseQ := hse.lift (hZQ.mono (Nat.le_trans hNW hB.size))
          have hWQ := hBQ.size
          refine wp_region_spec [Sp.is vq, Sp.is (.agg #[.slice o0 p.consts.length q0, .slice o1 p.globals.length q1, .slice o2 p.sensors.length q2, .slice o3 p.outputs.length q3, .slice o4 p.channels.length q4, .slice o5 p.tasks.length q5]), Sp.is (.pointer (some ⟨wr.heap.size, 4, none⟩)), Sp.is (.slice ob s.body.length cb), Sp.row W.heap.size (wrS (namesOf p) [] s.body), Sp.row W.heap.size (unionR (unionR (wrS (namesOf p) [] (l.take k)) (hereW (namesOf p) s.kind s.name)) (wrS (namesOf p) [] s.body)), Sp.is (.agg #[.slice o0 p.consts.length q0, .slice o1 p.globals.length q1, .slice o2 p.sensors.length q2, .slice o3 p.outputs.length q3, .slice o4 p.channels.length q4, .slice o5 p.tasks.length q5]), Sp.is (.pointer (some ⟨wr.heap.size, 5, none⟩)), Sp.is (.slice oe s.els.length ce), Sp.row W.heap.size (wrS (namesOf p) [] s.els), Sp.row W.heap.size (unionR (unionR (unionR (wrS (namesOf p) [] (l.take k)) (hereW (namesOf p) s.kind s.name)) (wrS (namesOf p) [] s.body)) (wrS (namesOf p) [] s.els)), Sp.row W.heap.size (unionR (unionR (unionR (wrS (namesOf p) [] (l.take k)) (hereW (namesOf p) s.kind s.name)) (wrS (namesOf p) [] s.body)) (wrS (namesOf p) [] s.els))] mixed (by kernel_rfl) (by kernel_rfl) rfl (by kernel_rfl) ?step ?fin
          case step =>
            intro vs W9 hvl hVB
            obtain ⟨u0, u1, u2, u3, u4, u5, u6, u7, u8, u9, u10, u11, rfl⟩ := vlen12 hvl
            have hB9 := hVB
            have hBV := hBQ.trans (hB9.mono hWQ)
            have hAV := hAQ.later hB9
            have hSV := hSQ.later hB9
            have a0 := hAV.cell 0 rfl
            have a1 := hAV.cell 1 rfl
            have a2 := hAV.cell 2 rfl
            have a3 := hAV.cell 3 rfl
            have a4 := hAV.cell 4 rfl
            have a5 := hAV.cell 5 rfl
            have s4 := hSV.cell 4 rfl
            have s5 := hSV.cell 5 rfl
            have hpV := hpQ.lift (hB9.mono hNQ)
            have hNV := Nat.le_trans hNQ hB9.size
            simp only [frameOf, List.zip_cons_cons, List.zip_nil_left, List.foldl_cons, List.foldl_nil, Act.put, List.setIfInBounds_toArray, List.set_cons_succ, List.set_cons_zero]
            refine ⟨fun hd ho => ?_, fun hd ho => ?_, fun hd ho => ?_, fun hd ho => ?_, fun hd ho => ?_, fun hd ho => ?_, fun hd ho => ?_, fun hd ho => ?_, fun hd ho => ?_, fun hd ho => ?_, fun hd ho => ?_, fun hd ho => ?_, trivial⟩
            · have h11 := ho 11 _ rfl (by rfl)
              change u11 = _ at h11
              subst h11
              go_wp2_with fail
              exact ⟨rfl, _, rfl, Below.refl _ _, rfl⟩
            · go_wp2_with fail
              exact ⟨rfl, _, rfl, Below.refl _ _, rfl⟩
            · go_wp2_with fail
              exact ⟨rfl, _, rfl, Below.refl _ _, rfl⟩
            · have h2 := hd.1 rfl
              change u2 = _ at h2
              subst h2
              go_wp2_with fail
              exact ⟨rfl, _, rfl, Below.refl _ _, rfl⟩
            · have h1 := hd.1 rfl
              change u1 = _ at h1
              subst h1
              have h3 := hd.2.1 rfl
              change u3 = _ at h3
              subst h3
              go_wp2_with (go_at_call 26; refine (ih s.body _ _ _ _ _ _ _ N _ HSB.out.1 hpV (hsbQ.lift (hB9.mono hNQ)) hNV).mono ?_; rintro e w2 ⟨⟨v2, rfl, hO2⟩, hB2⟩)
              exact ⟨rfl, v2, rfl, hB2, OwnAt.base hO2 hBV.size⟩
            · have h0 := hd.1 rfl
              change u0 = _ at h0
              subst h0
              have h4 := hd.2.1 rfl
              change Row _ _ u4 _ at h4
              go_wp2_with (go_at_call 29; refine (runion_any _ _ W.heap.size _ _ _ W9 (hOQ.later hB9) h4 hBV.size ((HGO.out k).union (HGH.out s)) (HGU.out s.body)).mono ?_; rintro e w2 ⟨⟨v2, rfl, hO2⟩, hB2⟩)
              exact ⟨rfl, v2, rfl, hB2, hO2⟩
            · go_wp2_with fail
              exact ⟨rfl, _, rfl, Below.refl _ _, rfl⟩
            · go_wp2_with fail
              exact ⟨rfl, _, rfl, Below.refl _ _, rfl⟩
            · have h7 := hd.1 rfl
              change u7 = _ at h7
              subst h7
              go_wp2_with fail
              exact ⟨rfl, _, rfl, Below.refl _ _, rfl⟩
            · have h6 := hd.1 rfl
              change u6 = _ at h6
              subst h6
              have h8 := hd.2.1 rfl
              change u8 = _ at h8
              subst h8
              go_wp2_with (go_at_call 26; refine (ih s.els _ _ _ _ _ _ _ N _ HSB.out.2 hpV (hseQ.lift (hB9.mono hNQ)) hNV).mono ?_; rintro e w2 ⟨⟨v2, rfl, hO2⟩, hB2⟩)
              exact ⟨rfl, v2, rfl, hB2, OwnAt.base hO2 hBV.size⟩
            · have h5 := hd.1 rfl
              change Row _ _ u5 _ at h5
              have h9 := hd.2.1 rfl
              change Row _ _ u9 _ at h9
              go_wp2_with (go_at_call 29; refine (runion_any _ _ W.heap.size _ _ _ W9 h5 h9 hBV.size (((HGO.out k).union (HGH.out s)).union (HGU.out s.body)) (HGU.out s.els)).mono ?_; rintro e w2 ⟨⟨v2, rfl, hO2⟩, hB2⟩)
              exact ⟨rfl, v2, rfl, hB2, hO2⟩
            · have h10 := hd.1 rfl
              change Row _ _ u10 _ at h10
              go_wp2_with fail
              exact ⟨rfl, _, rfl, Below.refl _ _, h10⟩
          case fin =>
            intro vs W9 hvl hVB hall
            obtain ⟨u0, u1, u2, u3, u4, u5, u6, u7, u8, u9, u10, u11, rfl⟩ := vlen12 hvl
            simp only [frameOf, List.zip_cons_cons, List.zip_nil_left, List.foldl_cons, List.foldl_nil, Act.put, List.setIfInBounds_toArray, List.set_cons_succ, List.set_cons_zero]
            have h11 := hall.2.2.2.2.2.2.2.2.2.2.2.1
            change Row _ _ u11 _ at h11
            have hB9 := hVB
            have hBV := hBQ.trans (hB9.mono hWQ)
            clear hall
            go_wp2_with fail
            go_roundw
            case rel => exact ⟨k + 1, by omega, by go_num, by rw [wrS_take HS.out, wrX_eq]; exact h11, hBV⟩
            case measure => simp [intOf]; omega
        · have t2 : (s.kind == 2) = false := beq_eq_false_iff_ne.2 h2
          have t3 : (s.kind == 3) = false := beq_eq_false_iff_ne.2 h3
          have HH := Lib.hid (show hereW (namesOf p) s.kind s.name = [] by unfold hereW; rw [if_neg (fun h => h.elim h2 h3)])
          clear h2 h3
          have hOQ : Row W.heap.size Z (.slice ov (wrS (namesOf p) [] (l.take k)).length cv) (unionR (wrS (namesOf p) [] (l.take k)) (hereW (namesOf p) s.kind s.name)) := by rw [HH.out]; exact hOZ
          have hZQ := hZ
          have hBQ := hBZ
          have hSQ := hS
          go_wp2_with fail
          have hAQ := hA.later hBQ
          have hpQ := hp'.lift (hBQ.mono hNW)
          have hNQ := Nat.le_trans hNW hBQ.size
          have hsbQ := hsb.lift (hZQ.mono (Nat.le_trans hNW hB.size))
          have hseQ := hse.lift (hZQ.mono (Nat.le_trans hNW hB.size))
          have hWQ := hBQ.size
          refine wp_region_spec [Sp.is (.slice ov (wrS (namesOf p) [] (l.take k)).length cv), Sp.is (.agg #[.slice o0 p.consts.length q0, .slice o1 p.globals.length q1, .slice o2 p.sensors.length q2, .slice o3 p.outputs.length q3, .slice o4 p.channels.length q4, .slice o5 p.tasks.length q5]), Sp.is (.pointer (some ⟨wr.heap.size, 4, none⟩)), Sp.is (.slice ob s.body.length cb), Sp.row W.heap.size (wrS (namesOf p) [] s.body), Sp.row W.heap.size (unionR (unionR (wrS (namesOf p) [] (l.take k)) (hereW (namesOf p) s.kind s.name)) (wrS (namesOf p) [] s.body)), Sp.is (.agg #[.slice o0 p.consts.length q0, .slice o1 p.globals.length q1, .slice o2 p.sensors.length q2, .slice o3 p.outputs.length q3, .slice o4 p.channels.length q4, .slice o5 p.tasks.length q5]), Sp.is (.pointer (some ⟨wr.heap.size, 5, none⟩)), Sp.is (.slice oe s.els.length ce), Sp.row W.heap.size (wrS (namesOf p) [] s.els), Sp.row W.heap.size (unionR (unionR (unionR (wrS (namesOf p) [] (l.take k)) (hereW (namesOf p) s.kind s.name)) (wrS (namesOf p) [] s.body)) (wrS (namesOf p) [] s.els)), Sp.row W.heap.size (unionR (unionR (unionR (wrS (namesOf p) [] (l.take k)) (hereW (namesOf p) s.kind s.name)) (wrS (namesOf p) [] s.body)) (wrS (namesOf p) [] s.els))] mixed (by kernel_rfl) (by kernel_rfl) rfl (by kernel_rfl) ?step ?fin
          case step =>
            intro vs W9 hvl hVB
            obtain ⟨u0, u1, u2, u3, u4, u5, u6, u7, u8, u9, u10, u11, rfl⟩ := vlen12 hvl
            have hB9 := hVB
            have hBV := hBQ.trans (hB9.mono hWQ)
            have hAV := hAQ.later hB9
            have hSV := hSQ.later hB9
            have a0 := hAV.cell 0 rfl
            have a1 := hAV.cell 1 rfl
            have a2 := hAV.cell 2 rfl
            have a3 := hAV.cell 3 rfl
            have a4 := hAV.cell 4 rfl
            have a5 := hAV.cell 5 rfl
            have s4 := hSV.cell 4 rfl
            have s5 := hSV.cell 5 rfl
            have hpV := hpQ.lift (hB9.mono hNQ)
            have hNV := Nat.le_trans hNQ hB9.size
            simp only [frameOf, List.zip_cons_cons, List.zip_nil_left, List.foldl_cons, List.foldl_nil, Act.put, List.setIfInBounds_toArray, List.set_cons_succ, List.set_cons_zero]
            refine ⟨fun hd ho => ?_, fun hd ho => ?_, fun hd ho => ?_, fun hd ho => ?_, fun hd ho => ?_, fun hd ho => ?_, fun hd ho => ?_, fun hd ho => ?_, fun hd ho => ?_, fun hd ho => ?_, fun hd ho => ?_, fun hd ho => ?_, trivial⟩
            · have h11 := ho 11 _ rfl (by rfl)
              change u11 = _ at h11
              subst h11
              go_wp2_with fail
              exact ⟨rfl, _, rfl, Below.refl _ _, rfl⟩
            · go_wp2_with fail
              exact ⟨rfl, _, rfl, Below.refl _ _, rfl⟩
            · go_wp2_with fail
              exact ⟨rfl, _, rfl, Below.refl _ _, rfl⟩
            · have h2 := hd.1 rfl
              change u2 = _ at h2
              subst h2
              go_wp2_with fail
              exact ⟨rfl, _, rfl, Below.refl _ _, rfl⟩
            · have h1 := hd.1 rfl
              change u1 = _ at h1
              subst h1
              have h3 := hd.2.1 rfl
              change u3 = _ at h3
              subst h3
              go_wp2_with (go_at_call 26; refine (ih s.body _ _ _ _ _ _ _ N _ HSB.out.1 hpV (hsbQ.lift (hB9.mono hNQ)) hNV).mono ?_; rintro e w2 ⟨⟨v2, rfl, hO2⟩, hB2⟩)
              exact ⟨rfl, v2, rfl, hB2, OwnAt.base hO2 hBV.size⟩
            · have h0 := hd.1 rfl
              change u0 = _ at h0
              subst h0
              have h4 := hd.2.1 rfl
              change Row _ _ u4 _ at h4
              go_wp2_with (go_at_call 29; refine (runion_any _ _ W.heap.size _ _ _ W9 (hOQ.later hB9) h4 hBV.size ((HGO.out k).union (HGH.out s)) (HGU.out s.body)).mono ?_; rintro e w2 ⟨⟨v2, rfl, hO2⟩, hB2⟩)
              exact ⟨rfl, v2, rfl, hB2, hO2⟩
            · go_wp2_with fail
              exact ⟨rfl, _, rfl, Below.refl _ _, rfl⟩
            · go_wp2_with fail
              exact ⟨rfl, _, rfl, Below.refl _ _, rfl⟩
            · have h7 := hd.1 rfl
              change u7 = _ at h7
              subst h7
              go_wp2_with fail
              exact ⟨rfl, _, rfl, Below.refl _ _, rfl⟩
            · have h6 := hd.1 rfl
              change u6 = _ at h6
              subst h6
              have h8 := hd.2.1 rfl
              change u8 = _ at h8
              subst h8
              go_wp2_with (go_at_call 26; refine (ih s.els _ _ _ _ _ _ _ N _ HSB.out.2 hpV (hseQ.lift (hB9.mono hNQ)) hNV).mono ?_; rintro e w2 ⟨⟨v2, rfl, hO2⟩, hB2⟩)
              exact ⟨rfl, v2, rfl, hB2, OwnAt.base hO2 hBV.size⟩
            · have h5 := hd.1 rfl
              change Row _ _ u5 _ at h5
              have h9 := hd.2.1 rfl
              change Row _ _ u9 _ at h9
              go_wp2_with (go_at_call 29; refine (runion_any _ _ W.heap.size _ _ _ W9 h5 h9 hBV.size (((HGO.out k).union (HGH.out s)).union (HGU.out s.body)) (HGU.out s.els)).mono ?_; rintro e w2 ⟨⟨v2, rfl, hO2⟩, hB2⟩)
              exact ⟨rfl, v2, rfl, hB2, hO2⟩
            · have h10 := hd.1 rfl
              change Row _ _ u10 _ at h10
              go_wp2_with fail
              exact ⟨rfl, _, rfl, Below.refl _ _, h10⟩
          case fin =>
            intro vs W9 hvl hVB hall
            obtain ⟨u0, u1, u2, u3, u4, u5, u6, u7, u8, u9, u10, u11, rfl⟩ := vlen12 hvl
            simp only [frameOf, List.zip_cons_cons, List.zip_nil_left, List.foldl_cons, List.foldl_nil, Act.put, List.setIfInBounds_toArray, List.set_cons_succ, List.set_cons_zero]
            have h11 := hall.2.2.2.2.2.2.2.2.2.2.2.1
            change Row _ _ u11 _ at h11
            have hB9 := hVB
            have hBV := hBQ.trans (hB9.mono hWQ)
            clear hall
            go_wp2_with fail
            go_roundw
            case rel => exact ⟨k + 1, by omega, by go_num, by rw [wrS_take HS.out, wrX_eq]; exact h11, hBV⟩
            case measure => simp [intOf]; omega
    · have hkl : k = l.length := by omega
      subst hkl
      go_wp2_with fail
      go_ret
      refine ⟨⟨_, rfl, ?_⟩, hfin⟩
      have := OwnAt.base hO hWB.size
      simp only [List.take_length] at this ⊢
      exact this

set_option maxHeartbeats 4000000 in
theorem rReads_any (p : Prog) (hds : Idx (namesOf p)) (l : List Stmt) (v0 v1 v2 v3 v4 v5 v : Value) (N : Nat) (w : World) (hp : ProgAt N w v0 v1 v2 v3 v4 v5 p) (hl : StmtsAt N w v l) (hN : N ≤ w.heap.size) :
    Calls Tryz.prog 24 #[.agg #[v0, v1, v2, v3, v4, v5], v] w fun e w' => (∃ v', e = .returned v' ∧ Row w.heap.size w' v' (usS (namesOf p) false [] l)) ∧ Below w.heap.size w w' := by
  obtain ⟨o0, q0, rfl, _, _, n0⟩ := SliceAt.slice hp.consts
  obtain ⟨o1, q1, rfl, _, _, n1⟩ := SliceAt.slice hp.globals
  obtain ⟨o2, q2, rfl, _, _, n2⟩ := SliceAt.slice hp.sensors
  obtain ⟨o3, q3, rfl, _, _, n3⟩ := SliceAt.slice hp.outputs
  obtain ⟨o4, q4, rfl, _, _, n4⟩ := SliceAt.slice hp.channels
  obtain ⟨o5, q5, rfl, _, _, n5⟩ := hp.tasks.slice
  obtain ⟨ol, cl, rfl, _, _, nl⟩ := hl.slice
  go_enter Tryz.func24, Tryz.ntmps24
  go_upto_region 1 with fail
  have hA := Blk.new w #[.slice o0 p.consts.length q0, .slice o1 p.globals.length q1, .slice o2 p.sensors.length q2, .slice o3 p.outputs.length q3, .slice o4 p.channels.length q4, .slice o5 p.tasks.length q5] 28
  have hWB := (Below.refl w.heap.size w).alloc (Nat.le_refl _) (.cells #[.slice o0 p.consts.length q0, .slice o1 p.globals.length q1, .slice o2 p.sensors.length q2, .slice o3 p.outputs.length q3, .slice o4 p.channels.length q4, .slice o5 p.tasks.length q5] 28)
  generalize w.alloc (.cells #[.slice o0 p.consts.length q0, .slice o1 p.globals.length q1, .slice o2 p.sensors.length q2, .slice o3 p.outputs.length q3, .slice o4 p.channels.length q4, .slice o5 p.tasks.length q5] 28) = W at hA hWB ⊢
  have a0 := hA.cell 0 rfl
  have a1 := hA.cell 1 rfl
  have a2 := hA.cell 2 rfl
  have a3 := hA.cell 3 rfl
  have a4 := hA.cell 4 rfl
  have a5 := hA.cell 5 rfl
  have hp' := hp.lift (hWB.mono hN)
  have hl' := hl.lift (hWB.mono hN)
  have hNW := Nat.le_trans hN hWB.size
  have HC := Lib.hid (used_any p hds false (sszs l + 1) l _ _ _ _ _ _ _ N W (Nat.lt_succ_self _) hp' hl' hNW)
  clear hds
  go_wp2_with (go_at_call 54; refine HC.out.mono ?_; rintro e w1 ⟨⟨v1, rfl, hO1⟩, hB1⟩)
  go_ret
  exact ⟨⟨_, rfl, OwnAt.base hO1 hWB.size⟩, hWB.trans (hB1.mono hWB.size)⟩

set_option maxHeartbeats 4000000 in
theorem rSensors_any (p : Prog) (hds : Idx (namesOf p)) (l : List Stmt) (v0 v1 v2 v3 v4 v5 v : Value) (N : Nat) (w : World) (hp : ProgAt N w v0 v1 v2 v3 v4 v5 p) (hl : StmtsAt N w v l) (hN : N ≤ w.heap.size) :
    Calls Tryz.prog 28 #[.agg #[v0, v1, v2, v3, v4, v5], v] w fun e w' => (∃ v', e = .returned v' ∧ Row w.heap.size w' v' (usS (namesOf p) true [] l)) ∧ Below w.heap.size w w' := by
  obtain ⟨o0, q0, rfl, _, _, n0⟩ := SliceAt.slice hp.consts
  obtain ⟨o1, q1, rfl, _, _, n1⟩ := SliceAt.slice hp.globals
  obtain ⟨o2, q2, rfl, _, _, n2⟩ := SliceAt.slice hp.sensors
  obtain ⟨o3, q3, rfl, _, _, n3⟩ := SliceAt.slice hp.outputs
  obtain ⟨o4, q4, rfl, _, _, n4⟩ := SliceAt.slice hp.channels
  obtain ⟨o5, q5, rfl, _, _, n5⟩ := hp.tasks.slice
  obtain ⟨ol, cl, rfl, _, _, nl⟩ := hl.slice
  go_enter Tryz.func28, Tryz.ntmps28
  go_upto_region 1 with fail
  have hA := Blk.new w #[.slice o0 p.consts.length q0, .slice o1 p.globals.length q1, .slice o2 p.sensors.length q2, .slice o3 p.outputs.length q3, .slice o4 p.channels.length q4, .slice o5 p.tasks.length q5] 28
  have hWB := (Below.refl w.heap.size w).alloc (Nat.le_refl _) (.cells #[.slice o0 p.consts.length q0, .slice o1 p.globals.length q1, .slice o2 p.sensors.length q2, .slice o3 p.outputs.length q3, .slice o4 p.channels.length q4, .slice o5 p.tasks.length q5] 28)
  generalize w.alloc (.cells #[.slice o0 p.consts.length q0, .slice o1 p.globals.length q1, .slice o2 p.sensors.length q2, .slice o3 p.outputs.length q3, .slice o4 p.channels.length q4, .slice o5 p.tasks.length q5] 28) = W at hA hWB ⊢
  have a0 := hA.cell 0 rfl
  have a1 := hA.cell 1 rfl
  have a2 := hA.cell 2 rfl
  have a3 := hA.cell 3 rfl
  have a4 := hA.cell 4 rfl
  have a5 := hA.cell 5 rfl
  have hp' := hp.lift (hWB.mono hN)
  have hl' := hl.lift (hWB.mono hN)
  have hNW := Nat.le_trans hN hWB.size
  have HC := Lib.hid (used_any p hds true (sszs l + 1) l _ _ _ _ _ _ _ N W (Nat.lt_succ_self _) hp' hl' hNW)
  clear hds
  go_wp2_with (go_at_call 54; refine HC.out.mono ?_; rintro e w1 ⟨⟨v1, rfl, hO1⟩, hB1⟩)
  go_ret
  exact ⟨⟨_, rfl, OwnAt.base hO1 hWB.size⟩, hWB.trans (hB1.mono hWB.size)⟩
end Go.Proofs.YtkfdnlfkomhmfaaGreatDoor
