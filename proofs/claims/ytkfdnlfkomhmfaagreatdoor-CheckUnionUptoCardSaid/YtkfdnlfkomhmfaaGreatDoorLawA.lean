/- check.Reads, Writes, Sensors. check.Writes. The law CheckAccesses: it answers true. -/
import Derived.Test.YtkfdnlfkomhmfaaGreatDoorInd
import Derived.Test.YtkfdnlfkomhmfaaGreatDoorRuse2
import Derived.Test.YtkfdnlfkomhmfaaGreatDoorExam
namespace Go.Proofs.YtkfdnlfkomhmfaaGreatDoor
open Go.RowKit Go.Shelf
set_option linter.unusedVariables false
set_option linter.unusedSimpArgs false

theorem preE_len (n : Nat) : ∀ l : List Expr, eszs l ≤ n → (preE l).length ≤ eszs l ∧ ∀ x ∈ preE l, x.name.size ≤ eszs l := by
  induction n with
  | zero =>
    intro l h
    cases l with
    | nil => simp [preE]
    | cons x xs => simp [eszs, esz_eq] at h
  | succ n ih =>
    intro l
    induction l with
    | nil => intro h; simp [preE]
    | cons x xs ihl =>
      intro h
      have e1 : eszs (x :: xs) = 1 + x.name.size + eszs x.args + eszs xs := by simp [eszs, esz_eq]
      obtain ⟨a1, a2⟩ := ih x.args (by omega)
      obtain ⟨b1, b2⟩ := ihl (by omega)
      rw [e1]
      simp only [preE, preX_eq, List.length_append, List.length_cons, List.mem_append, List.mem_cons]
      refine ⟨by omega, ?_⟩
      rintro y ((rfl | hy) | hy)
      · omega
      · have := a2 y hy; omega
      · have := b2 y hy; omega
theorem exprsOf_cons (x : Stmt) (xs : List Stmt) : exprsOf (x :: xs) = preE x.args ++ (exprsOf x.body ++ exprsOf x.els) ++ exprsOf xs := by simp [exprsOf, preS, preS1_eq]
theorem exprsOf_len (n : Nat) : ∀ l : List Stmt, sszs l ≤ n → (exprsOf l).length ≤ sszs l ∧ (∀ x ∈ exprsOf l, x.name.size ≤ sszs l) ∧ (preS l).length ≤ sszs l ∧ ∀ s ∈ preS l, s.name.size ≤ sszs l := by
  induction n with
  | zero =>
    intro l h
    cases l with
    | nil => simp [preS, exprsOf]
    | cons x xs => simp [sszs, ssz_eq] at h
  | succ n ih =>
    intro l
    induction l with
    | nil => intro h; simp [preS, exprsOf]
    | cons x xs ihl =>
      intro h
      have e1 : sszs (x :: xs) = 1 + x.name.size + eszs x.args + sszs x.body + sszs x.els + sszs xs := by simp [sszs, ssz_eq]
      obtain ⟨z1, z2⟩ := preE_len _ x.args (Nat.le_refl _)
      obtain ⟨a1, a2, a3, a4⟩ := ih x.body (by omega)
      obtain ⟨b1, b2, b3, b4⟩ := ih x.els (by omega)
      obtain ⟨c1, c2, c3, c4⟩ := ihl (by omega)
      rw [e1, exprsOf_cons]
      simp only [preS, preS1_eq, List.length_append, List.length_cons, List.mem_append, List.mem_cons]
      refine ⟨by omega, ?_, by omega, ?_⟩
      · rintro y ((hy | hy | hy) | hy)
        · have := z2 y hy; omega
        · have := a2 y hy; omega
        · have := b2 y hy; omega
        · have := c2 y hy; omega
      · rintro y ((rfl | hy | hy) | hy)
        · omega
        · have := a4 y hy; omega
        · have := b4 y hy; omega
        · have := c4 y hy; omega

/-- a list whose names and number are in range -/
structure Fits (l : List Stmt) : Prop where
  n : (exprsOf l).length ≤ 4000000
  s : ∀ x ∈ exprsOf l, Str x.name
  m : (preS l).length ≤ 4000000
  t : ∀ x ∈ preS l, Str x.name
theorem Fits.of {l : List Stmt} (h : sszs l ≤ 1048576) : Fits l := by
  obtain ⟨h1, h2, h3, h4⟩ := exprsOf_len _ l (Nat.le_refl _)
  exact ⟨by omega, fun x hx => Nat.le_trans (h2 x hx) h, by omega, fun x hx => Nat.le_trans (h4 x hx) h⟩

def Sp.ints (ks : List Int) : Sp := ⟨fun v w => ∃ N, N ≤ w.heap.size ∧ IntsAt N w v ks, fun _ _ _ ⟨N, h1, h2⟩ hb => ⟨N, Nat.le_trans h1 hb.size, SliceAt.lift h2 (hb.mono h1)⟩⟩
def Sp.set (F : ByteArray → Prop) : Sp := ⟨fun v w => ∃ b, v = .map (some b) ∧ SetS w b 4000000 F, fun _ _ _ ⟨b, h1, h2⟩ hb => ⟨b, h1, h2.later hb⟩⟩
theorem ints_new (w : World) (ks : List Int) (hl : ks.length ≤ 1000) : IntsAt (w.alloc (.cells (ks.map (Value.int .i64)).toArray 3)).heap.size (w.alloc (.cells (ks.map (Value.int .i64)).toArray 3)) (.slice (some ⟨w.heap.size, 0, none⟩) ks.length ks.length) ks := by
  refine ⟨_, _, rfl, Nat.le_refl _, by omega, by omega, fun _ => ⟨w.heap.size, 0, rfl, by simp, fun m hm => ⟨rfl, fun o v hv => ?_⟩⟩⟩
  cases o with
  | zero =>
    simp [intCells] at hv
    subst hv
    refine (Blk.new w _ _).cell _ ?_
    simp [List.getElem?_eq_getElem hm]
  | succ o => simp [intCells] at hv

/-- the program's list is the reference's -/
theorem idx_usS (ds : List Decl) (hd : Idx ds) (t : Bool) (l : List Stmt) (xs : List Int) (h : Asc xs) (hm : ∀ i, i ∈ xs ↔ idxF ds (fun s => ∃ x ∈ exprsOf l, x.kind ∈ (if t then [4] else [2, 3] : List Int) ∧ x.name = s) (if t then [4] else [2, 3]) i) : xs = usS ds t [] l := by
  refine asc_ext h (good_usS hd t _ l [] (Nat.le_refl _) Good.nil).1 fun i => ?_
  rw [hm i, mem_usS ds t i _ l [] (Nat.le_refl _)]
  simp only [List.not_mem_nil, false_or, idxF]
  constructor
  · rintro ⟨s, ⟨x, hx, hk, rfl⟩, hd⟩
    refine ⟨x, hx, ?_⟩
    cases t
    · simp only [Bool.false_eq_true, if_false, List.mem_cons, List.not_mem_nil, or_false] at hk hd
      rw [hereX, if_neg (by decide), if_pos hk, mem_namedR (by decide) (by decide)]; exact hd
    · simp only [if_true, List.mem_cons, List.not_mem_nil, or_false] at hk hd
      rw [hereX, if_pos rfl, if_pos hk, mem_namedR (by decide) (by decide)]
      obtain ⟨d, h1, h2, h3⟩ := hd; exact ⟨d, h1, .inl h2, h3⟩
  · rintro ⟨x, hx, hi⟩
    refine ⟨x.name, ⟨x, hx, ?_, rfl⟩, ?_⟩
    · cases t
      · unfold hereX at hi; rw [if_neg (by decide)] at hi; split at hi
        · next hk => simpa using hk
        · simp at hi
      · unfold hereX at hi; rw [if_pos rfl] at hi; split at hi
        · next hk => simpa using hk
        · simp at hi
    · cases t
      · unfold hereX at hi; rw [if_neg (by decide)] at hi; split at hi
        · rw [mem_namedR (by decide) (by decide)] at hi; simpa using hi
        · simp at hi
      · unfold hereX at hi; rw [if_pos rfl] at hi; split at hi
        · rw [mem_namedR (by decide) (by decide)] at hi; simpa using hi
        · simp at hi
theorem idx_wrS (ds : List Decl) (hd : Idx ds) (l : List Stmt) (xs : List Int) (h : Asc xs) (hm : ∀ i, i ∈ xs ↔ idxF ds (fun s => ∃ x ∈ preS l, (x.kind = 2 ∨ x.kind = 3) ∧ x.name = s) [2, 3] i) : xs = wrS ds [] l := by
  refine asc_ext h (good_wrS hd _ l [] (Nat.le_refl _) Good.nil).1 fun i => ?_
  rw [hm i, mem_wrS ds i _ l [] (Nat.le_refl _)]
  simp only [List.not_mem_nil, false_or, idxF]
  constructor
  · rintro ⟨s, ⟨x, hx, hk, rfl⟩, hd⟩
    refine ⟨x, hx, ?_⟩
    rw [hereW, if_pos hk, mem_namedR (by decide) (by decide)]; simpa using hd
  · rintro ⟨x, hx, hi⟩
    unfold hereW at hi
    split at hi
    · next hk => rw [mem_namedR (by decide) (by decide)] at hi; exact ⟨x.name, ⟨x, hx, hk, rfl⟩, by simpa using hi⟩
    · simp at hi
theorem vlen7 {vs : List Value} (h : vs.length = 7) : ∃ u0 u1 u2 u3 u4 u5 u6, vs = [u0, u1, u2, u3, u4, u5, u6] := by
  obtain ⟨u0, t0, rfl⟩ := List.exists_cons_of_length_eq_add_one h
  replace h : t0.length = 6 := by simpa using h
  obtain ⟨u1, t1, rfl⟩ := List.exists_cons_of_length_eq_add_one h
  replace h : t1.length = 5 := by simpa using h
  obtain ⟨u2, t2, rfl⟩ := List.exists_cons_of_length_eq_add_one h
  replace h : t2.length = 4 := by simpa using h
  obtain ⟨u3, t3, rfl⟩ := List.exists_cons_of_length_eq_add_one h
  replace h : t3.length = 3 := by simpa using h
  obtain ⟨u4, t4, rfl⟩ := List.exists_cons_of_length_eq_add_one h
  replace h : t4.length = 2 := by simpa using h
  obtain ⟨u5, t5, rfl⟩ := List.exists_cons_of_length_eq_add_one h
  replace h : t5.length = 1 := by simpa using h
  obtain ⟨u6, t6, rfl⟩ := List.exists_cons_of_length_eq_add_one h
  replace h : t6.length = 0 := by simpa using h
  obtain rfl := List.eq_nil_of_length_eq_zero h
  exact ⟨_, _, _, _, _, _, _, rfl⟩

set_option maxRecDepth 100000 in
set_option maxHeartbeats 4000000 in
theorem Reads_any (p : Prog) (hds : Idx (namesOf p)) (l : List Stmt) (v0 v1 v2 v3 v4 v5 v : Value) (N : Nat) (w : World) (hp : ProgAt N w v0 v1 v2 v3 v4 v5 p) (hl : StmtsAt N w v l) (hN : N ≤ w.heap.size) (hf : Fits l) :
    Calls Tryz.prog 23 #[.agg #[v0, v1, v2, v3, v4, v5], v] w fun e w' => (∃ v', e = .returned v' ∧ Row w.heap.size w' v' (usS (namesOf p) false [] l)) ∧ Below w.heap.size w w' := by
  obtain ⟨o0, q0, rfl, _, _, n0⟩ := SliceAt.slice hp.consts
  obtain ⟨o1, q1, rfl, _, _, n1⟩ := SliceAt.slice hp.globals
  obtain ⟨o2, q2, rfl, _, _, n2⟩ := SliceAt.slice hp.sensors
  obtain ⟨o3, q3, rfl, _, _, n3⟩ := SliceAt.slice hp.outputs
  obtain ⟨o4, q4, rfl, _, _, n4⟩ := SliceAt.slice hp.channels
  obtain ⟨o5, q5, rfl, _, _, n5⟩ := hp.tasks.slice
  obtain ⟨ol, cl, rfl, _, _, nl⟩ := hl.slice
  have HDS := Lib.hid hds
  clear hds
  go_enter Tryz.func23, Tryz.ntmps23
  go_upto_region 1 with fail
  have hA := Blk.new w #[.slice o0 p.consts.length q0, .slice o1 p.globals.length q1, .slice o2 p.sensors.length q2, .slice o3 p.outputs.length q3, .slice o4 p.channels.length q4, .slice o5 p.tasks.length q5] 28
  have hWB := (Below.refl w.heap.size w).alloc (Nat.le_refl _) (.cells #[.slice o0 p.consts.length q0, .slice o1 p.globals.length q1, .slice o2 p.sensors.length q2, .slice o3 p.outputs.length q3, .slice o4 p.channels.length q4, .slice o5 p.tasks.length q5] 28)
  generalize w.alloc (.cells #[.slice o0 p.consts.length q0, .slice o1 p.globals.length q1, .slice o2 p.sensors.length q2, .slice o3 p.outputs.length q3, .slice o4 p.channels.length q4, .slice o5 p.tasks.length q5] 28) = W at hA hWB ⊢
  have hp' := hp.lift (hWB.mono hN)
  have hl' := hl.lift (hWB.mono hN)
  have hNW := Nat.le_trans hN hWB.size
  refine wp_region_spec [Sp.is (.agg #[.slice o0 p.consts.length q0, .slice o1 p.globals.length q1, .slice o2 p.sensors.length q2, .slice o3 p.outputs.length q3, .slice o4 p.channels.length q4, .slice o5 p.tasks.length q5]), Sp.is (.slice ol l.length cl), Sp.ints [2, 3], Sp.set (fun s => ∃ x ∈ exprsOf l, x.kind ∈ ([2, 3] : List Int) ∧ x.name = s), Sp.ints [2, 3], Sp.row W.heap.size (usS (namesOf p) false [] l), Sp.row W.heap.size (usS (namesOf p) false [] l)] mixed (by kernel_rfl) (by kernel_rfl) rfl (by kernel_rfl) ?step ?fin
  case step =>
    intro vs W9 hvl hVB
    obtain ⟨u0, u1, u2, u3, u4, u5, u6, rfl⟩ := vlen7 hvl
    have hAV := hA.later hVB
    have a0 := hAV.cell 0 rfl
    have a1 := hAV.cell 1 rfl
    have a2 := hAV.cell 2 rfl
    have a3 := hAV.cell 3 rfl
    have a4 := hAV.cell 4 rfl
    have a5 := hAV.cell 5 rfl
    have hpV := hp'.lift (hVB.mono hNW)
    have hlV := hl'.lift (hVB.mono hNW)
    have hNV := Nat.le_trans hNW hVB.size
    have hnw := ints_new W9 [2, 3] (by simp)
    simp only [frameOf, List.zip_cons_cons, List.zip_nil_left, List.foldl_cons, List.foldl_nil, Act.put, List.setIfInBounds_toArray, List.set_cons_succ, List.set_cons_zero]
    refine ⟨fun hd ho => ?_, fun hd ho => ?_, fun hd ho => ?_, fun hd ho => ?_, fun hd ho => ?_, fun hd ho => ?_, fun hd ho => ?_, trivial⟩
    · go_wp2_with fail
      exact ⟨rfl, _, rfl, Below.refl _ _, rfl⟩
    · go_wp2_with fail
      exact ⟨rfl, _, rfl, Below.refl _ _, rfl⟩
    · go_wp2_with fail
      exact ⟨rfl, _, rfl, (Below.refl _ _).alloc (Nat.le_refl _) _, _, Nat.le_refl _, hnw⟩
    · have h1 := hd.1 rfl
      change u1 = _ at h1
      subst h1
      have h2 := hd.2.1 rfl
      change ∃ N, N ≤ W9.heap.size ∧ IntsAt N W9 u2 _ at h2
      obtain ⟨N2, hn2, hi2⟩ := h2
      go_wp2_with (go_at_call 53; refine (named_any l [2, 3] _ _ N N2 W9 hlV hi2 hNV hn2 hf.n hf.s).mono ?_; rintro e w2 ⟨⟨b, rfl, hS⟩, hB2⟩)
      exact ⟨rfl, _, rfl, hB2, b, rfl, hS⟩
    · go_wp2_with fail
      exact ⟨rfl, _, rfl, (Below.refl _ _).alloc (Nat.le_refl _) _, _, Nat.le_refl _, hnw⟩
    · have h0 := hd.1 rfl
      change u0 = _ at h0
      subst h0
      have h3 := hd.2.1 rfl
      change ∃ b, u3 = .map (some b) ∧ SetS W9 b 4000000 _ at h3
      obtain ⟨b, rfl, hS⟩ := h3
      have h4 := hd.2.2.1 rfl
      change ∃ N, N ≤ W9.heap.size ∧ IntsAt N W9 u4 _ at h4
      obtain ⟨N4, hn4, hi4⟩ := h4
      go_wp2_with (go_at_call 52; refine (indices_any p HDS.out _ b [2, 3] _ _ _ _ _ _ _ N N4 W9 hpV hNV hS hi4 hn4).mono ?_; rintro e w2 ⟨⟨v2, xs, rfl, hrow, hasc, hmem⟩, hB2⟩)
      have e9 := idx_usS (namesOf p) HDS.out false l xs hasc hmem
      rw [e9] at hrow
      exact ⟨rfl, _, rfl, hB2, OwnAt.base hrow hVB.size⟩
    · have h5 := hd.1 rfl
      change Row _ _ u5 _ at h5
      go_wp2_with fail
      exact ⟨rfl, _, rfl, Below.refl _ _, h5⟩
  case fin =>
    intro vs W9 hvl hVB hall
    obtain ⟨u0, u1, u2, u3, u4, u5, u6, rfl⟩ := vlen7 hvl
    simp only [frameOf, List.zip_cons_cons, List.zip_nil_left, List.foldl_cons, List.foldl_nil, Act.put, List.setIfInBounds_toArray, List.set_cons_succ, List.set_cons_zero]
    have h6 := hall.2.2.2.2.2.2.1
    change Row _ _ u6 _ at h6
    clear hall
    go_wp2_with fail
    go_ret
    exact ⟨⟨_, rfl, OwnAt.base h6 hWB.size⟩, hWB.trans (hVB.mono hWB.size)⟩

set_option maxRecDepth 100000 in
set_option maxHeartbeats 4000000 in
theorem Sensors_any (p : Prog) (hds : Idx (namesOf p)) (l : List Stmt) (v0 v1 v2 v3 v4 v5 v : Value) (N : Nat) (w : World) (hp : ProgAt N w v0 v1 v2 v3 v4 v5 p) (hl : StmtsAt N w v l) (hN : N ≤ w.heap.size) (hf : Fits l) :
    Calls Tryz.prog 27 #[.agg #[v0, v1, v2, v3, v4, v5], v] w fun e w' => (∃ v', e = .returned v' ∧ Row w.heap.size w' v' (usS (namesOf p) true [] l)) ∧ Below w.heap.size w w' := by
  obtain ⟨o0, q0, rfl, _, _, n0⟩ := SliceAt.slice hp.consts
  obtain ⟨o1, q1, rfl, _, _, n1⟩ := SliceAt.slice hp.globals
  obtain ⟨o2, q2, rfl, _, _, n2⟩ := SliceAt.slice hp.sensors
  obtain ⟨o3, q3, rfl, _, _, n3⟩ := SliceAt.slice hp.outputs
  obtain ⟨o4, q4, rfl, _, _, n4⟩ := SliceAt.slice hp.channels
  obtain ⟨o5, q5, rfl, _, _, n5⟩ := hp.tasks.slice
  obtain ⟨ol, cl, rfl, _, _, nl⟩ := hl.slice
  have HDS := Lib.hid hds
  clear hds
  go_enter Tryz.func27, Tryz.ntmps27
  go_upto_region 1 with fail
  have hA := Blk.new w #[.slice o0 p.consts.length q0, .slice o1 p.globals.length q1, .slice o2 p.sensors.length q2, .slice o3 p.outputs.length q3, .slice o4 p.channels.length q4, .slice o5 p.tasks.length q5] 28
  have hWB := (Below.refl w.heap.size w).alloc (Nat.le_refl _) (.cells #[.slice o0 p.consts.length q0, .slice o1 p.globals.length q1, .slice o2 p.sensors.length q2, .slice o3 p.outputs.length q3, .slice o4 p.channels.length q4, .slice o5 p.tasks.length q5] 28)
  generalize w.alloc (.cells #[.slice o0 p.consts.length q0, .slice o1 p.globals.length q1, .slice o2 p.sensors.length q2, .slice o3 p.outputs.length q3, .slice o4 p.channels.length q4, .slice o5 p.tasks.length q5] 28) = W at hA hWB ⊢
  have hp' := hp.lift (hWB.mono hN)
  have hl' := hl.lift (hWB.mono hN)
  have hNW := Nat.le_trans hN hWB.size
  refine wp_region_spec [Sp.is (.agg #[.slice o0 p.consts.length q0, .slice o1 p.globals.length q1, .slice o2 p.sensors.length q2, .slice o3 p.outputs.length q3, .slice o4 p.channels.length q4, .slice o5 p.tasks.length q5]), Sp.is (.slice ol l.length cl), Sp.ints [4], Sp.set (fun s => ∃ x ∈ exprsOf l, x.kind ∈ ([4] : List Int) ∧ x.name = s), Sp.ints [4], Sp.row W.heap.size (usS (namesOf p) true [] l), Sp.row W.heap.size (usS (namesOf p) true [] l)] mixed (by kernel_rfl) (by kernel_rfl) rfl (by kernel_rfl) ?step ?fin
  case step =>
    intro vs W9 hvl hVB
    obtain ⟨u0, u1, u2, u3, u4, u5, u6, rfl⟩ := vlen7 hvl
    have hAV := hA.later hVB
    have a0 := hAV.cell 0 rfl
    have a1 := hAV.cell 1 rfl
    have a2 := hAV.cell 2 rfl
    have a3 := hAV.cell 3 rfl
    have a4 := hAV.cell 4 rfl
    have a5 := hAV.cell 5 rfl
    have hpV := hp'.lift (hVB.mono hNW)
    have hlV := hl'.lift (hVB.mono hNW)
    have hNV := Nat.le_trans hNW hVB.size
    have hnw := ints_new W9 [4] (by simp)
    simp only [frameOf, List.zip_cons_cons, List.zip_nil_left, List.foldl_cons, List.foldl_nil, Act.put, List.setIfInBounds_toArray, List.set_cons_succ, List.set_cons_zero]
    refine ⟨fun hd ho => ?_, fun hd ho => ?_, fun hd ho => ?_, fun hd ho => ?_, fun hd ho => ?_, fun hd ho => ?_, fun hd ho => ?_, trivial⟩
    · go_wp2_with fail
      exact ⟨rfl, _, rfl, Below.refl _ _, rfl⟩
    · go_wp2_with fail
      exact ⟨rfl, _, rfl, Below.refl _ _, rfl⟩
    · go_wp2_with fail
      exact ⟨rfl, _, rfl, (Below.refl _ _).alloc (Nat.le_refl _) _, _, Nat.le_refl _, hnw⟩
    · have h1 := hd.1 rfl
      change u1 = _ at h1
      subst h1
      have h2 := hd.2.1 rfl
      change ∃ N, N ≤ W9.heap.size ∧ IntsAt N W9 u2 _ at h2
      obtain ⟨N2, hn2, hi2⟩ := h2
      go_wp2_with (go_at_call 53; refine (named_any l [4] _ _ N N2 W9 hlV hi2 hNV hn2 hf.n hf.s).mono ?_; rintro e w2 ⟨⟨b, rfl, hS⟩, hB2⟩)
      exact ⟨rfl, _, rfl, hB2, b, rfl, hS⟩
    · go_wp2_with fail
      exact ⟨rfl, _, rfl, (Below.refl _ _).alloc (Nat.le_refl _) _, _, Nat.le_refl _, hnw⟩
    · have h0 := hd.1 rfl
      change u0 = _ at h0
      subst h0
      have h3 := hd.2.1 rfl
      change ∃ b, u3 = .map (some b) ∧ SetS W9 b 4000000 _ at h3
      obtain ⟨b, rfl, hS⟩ := h3
      have h4 := hd.2.2.1 rfl
      change ∃ N, N ≤ W9.heap.size ∧ IntsAt N W9 u4 _ at h4
      obtain ⟨N4, hn4, hi4⟩ := h4
      go_wp2_with (go_at_call 52; refine (indices_any p HDS.out _ b [4] _ _ _ _ _ _ _ N N4 W9 hpV hNV hS hi4 hn4).mono ?_; rintro e w2 ⟨⟨v2, xs, rfl, hrow, hasc, hmem⟩, hB2⟩)
      have e9 := idx_usS (namesOf p) HDS.out true l xs hasc hmem
      rw [e9] at hrow
      exact ⟨rfl, _, rfl, hB2, OwnAt.base hrow hVB.size⟩
    · have h5 := hd.1 rfl
      change Row _ _ u5 _ at h5
      go_wp2_with fail
      exact ⟨rfl, _, rfl, Below.refl _ _, h5⟩
  case fin =>
    intro vs W9 hvl hVB hall
    obtain ⟨u0, u1, u2, u3, u4, u5, u6, rfl⟩ := vlen7 hvl
    simp only [frameOf, List.zip_cons_cons, List.zip_nil_left, List.foldl_cons, List.foldl_nil, Act.put, List.setIfInBounds_toArray, List.set_cons_succ, List.set_cons_zero]
    have h6 := hall.2.2.2.2.2.2.1
    change Row _ _ u6 _ at h6
    clear hall
    go_wp2_with fail
    go_ret
    exact ⟨⟨_, rfl, OwnAt.base h6 hWB.size⟩, hWB.trans (hVB.mono hWB.size)⟩
end Go.Proofs.YtkfdnlfkomhmfaaGreatDoor

namespace Go.Proofs.YtkfdnlfkomhmfaaGreatDoor
open Go.RowKit Go.Shelf
set_option linter.unusedVariables false
set_option linter.unusedSimpArgs false
attribute [local go_sem] Oper.semAt_some

set_option maxRecDepth 100000 in
set_option maxHeartbeats 4000000 in
theorem Writes_any (p : Prog) (hds : Idx (namesOf p)) (l : List Stmt) (v0 v1 v2 v3 v4 v5 v : Value) (N : Nat) (w : World) (hp : ProgAt N w v0 v1 v2 v3 v4 v5 p) (hl : StmtsAt N w v l) (hN : N ≤ w.heap.size) (hf : Fits l) :
    Calls Tryz.prog 25 #[.agg #[v0, v1, v2, v3, v4, v5], v] w fun e w' => (∃ v', e = .returned v' ∧ Row w.heap.size w' v' (wrS (namesOf p) [] l)) ∧ Below w.heap.size w w' := by
  obtain ⟨o0, q0, rfl, _, _, n0⟩ := SliceAt.slice hp.consts
  obtain ⟨o1, q1, rfl, _, _, n1⟩ := SliceAt.slice hp.globals
  obtain ⟨o2, q2, rfl, _, _, n2⟩ := SliceAt.slice hp.sensors
  obtain ⟨o3, q3, rfl, _, _, n3⟩ := SliceAt.slice hp.outputs
  obtain ⟨o4, q4, rfl, _, _, n4⟩ := SliceAt.slice hp.channels
  obtain ⟨o5, q5, rfl, _, _, n5⟩ := hp.tasks.slice
  obtain ⟨oa, cap, rfl, _, _, _⟩ := hl.slice
  have HDS := Lib.hid hds
  clear hds
  have hmm := @run_makeMap Tryz.prog
  refine (callsIn_wide (n := 6)).1 ?_
  refine callsIn_of_wp_marks Tryz.func25 rfl trivial ?_ rfl
  simp only [Tryz.ntmps25, List.size_toArray, List.length_cons, List.length_nil, Nat.reduceAdd, Nat.reduceSub, Array.replicate_succ, Array.replicate_zero, List.push_toArray, List.append_toArray, List.nil_append, List.cons_append]
  gi_wp2
  have hB0 : Below w.heap.size w (((w.alloc (.cells #[.slice o0 p.consts.length q0, .slice o1 p.globals.length q1, .slice o2 p.sensors.length q2, .slice o3 p.outputs.length q3, .slice o4 p.channels.length q4, .slice o5 p.tasks.length q5] 28)).alloc (.map #[] 0)).alloc (.cells #[.map (some (w.heap.size + 1))] 100)) := (((Below.refl _ w).alloc (Nat.le_refl _) _).alloc (by simp) _).alloc (by simp; omega) _
  have hz0 : (((w.alloc (.cells #[.slice o0 p.consts.length q0, .slice o1 p.globals.length q1, .slice o2 p.sensors.length q2, .slice o3 p.outputs.length q3, .slice o4 p.channels.length q4, .slice o5 p.tasks.length q5] 28)).alloc (.map #[] 0)).alloc (.cells #[.map (some (w.heap.size + 1))] 100)).heap.size = w.heap.size + 3 := by simp
  have hkb : (((w.alloc (.cells #[.slice o0 p.consts.length q0, .slice o1 p.globals.length q1, .slice o2 p.sensors.length q2, .slice o3 p.outputs.length q3, .slice o4 p.channels.length q4, .slice o5 p.tasks.length q5] 28)).alloc (.map #[] 0)).alloc (.cells #[.map (some (w.heap.size + 1))] 100)).heap[w.heap.size]? = some (.cells #[.slice o0 p.consts.length q0, .slice o1 p.globals.length q1, .slice o2 p.sensors.length q2, .slice o3 p.outputs.length q3, .slice o4 p.channels.length q4, .slice o5 p.tasks.length q5] 28) := (Below.heap_alloc _ _ _ (by simp; omega)).trans ((Below.heap_alloc _ _ _ (by simp)).trans (World.alloc_heap_new w _))
  have hmb : SetS (((w.alloc (.cells #[.slice o0 p.consts.length q0, .slice o1 p.globals.length q1, .slice o2 p.sensors.length q2, .slice o3 p.outputs.length q3, .slice o4 p.channels.length q4, .slice o5 p.tasks.length q5] 28)).alloc (.map #[] 0)).alloc (.cells #[.map (some (w.heap.size + 1))] 100)) (w.heap.size + 1) 0 (fun _ => False) := by
    have := SetS.made (w.alloc (.cells #[.slice o0 p.consts.length q0, .slice o1 p.globals.length q1, .slice o2 p.sensors.length q2, .slice o3 p.outputs.length q3, .slice o4 p.channels.length q4, .slice o5 p.tasks.length q5] 28))
    rw [World.size_alloc] at this
    exact this.later ((Below.refl _ _).alloc (Nat.le_refl _) _)
  have hob : (((w.alloc (.cells #[.slice o0 p.consts.length q0, .slice o1 p.globals.length q1, .slice o2 p.sensors.length q2, .slice o3 p.outputs.length q3, .slice o4 p.channels.length q4, .slice o5 p.tasks.length q5] 28)).alloc (.map #[] 0)).alloc (.cells #[.map (some (w.heap.size + 1))] 100)).heap[w.heap.size + 2]? = some (.cells #[.map (some (w.heap.size + 1))] 100) := by
    have := World.alloc_heap_new ((w.alloc (.cells #[.slice o0 p.consts.length q0, .slice o1 p.globals.length q1, .slice o2 p.sensors.length q2, .slice o3 p.outputs.length q3, .slice o4 p.channels.length q4, .slice o5 p.tasks.length q5] 28)).alloc (.map #[] 0)) (.cells #[.map (some (w.heap.size + 1))] 100)
    simpa using this
  generalize (((w.alloc (.cells #[.slice o0 p.consts.length q0, .slice o1 p.globals.length q1, .slice o2 p.sensors.length q2, .slice o3 p.outputs.length q3, .slice o4 p.channels.length q4, .slice o5 p.tasks.length q5] 28)).alloc (.map #[] 0)).alloc (.cells #[.map (some (w.heap.size + 1))] 100)) = W0 at *
  refine ⟨trivial, (Stmts_in _ _ _ _ _).mono ?_⟩
  rintro e w2 ⟨rfl, rfl⟩
  have hB2 : Below W0.heap.size W0 (W0.alloc (.cells #[.slice oa l.length cap] 42)) := (Below.refl _ W0).alloc (Nat.le_refl _) _
  have hlb := World.alloc_heap_new W0 (.cells #[.slice oa l.length cap] 42)
  have hz2 : (W0.alloc (.cells #[.slice oa l.length cap] 42)).heap.size = w.heap.size + 4 := by simp [hz0]
  rw [hz0] at hlb ⊢
  generalize W0.alloc (.cells #[.slice oa l.length cap] 42) = w2 at *
  have hkb2 := (hB2.block _ (by omega)).trans hkb
  have hob2 := (hB2.block _ (by omega)).trans hob
  have hmb2 := hmb.later hB2
  have hBw2 := hB0.trans (hB2.mono (by omega))
  gi_wp2
  refine wpIn_range (gf := 103) (lb := #[.pointer (some ⟨w.heap.size + 3, 0, none⟩)]) rfl (enters_of Tryz.func103 (by kernel_rfl) rfl)
    (iterStmts N (w.heap.size + 3) (.slice oa l.length cap) l) ?ok (by omega) (fun _ _ _ h => by obtain ⟨_, _, _, _, _, _, _, _, _, rfl, _⟩ := h; rfl) (fun A B x args h hAB => by obtain ⟨_, _, _, _, _, _, _, _, _, rfl, h1, h2⟩ := h; exact ⟨_, _, _, _, _, _, _, _, _, rfl, h1.lift hAB, h2⟩)
    (· = w.heap.size + 1) (fun k h => ⟨by omega, by omega, by omega⟩) (fun k h => by omega) (fun pre W' => SetS W' (w.heap.size + 1) pre.length (fun s => ∃ x ∈ pre, (x.kind = 2 ∨ x.kind = 3) ∧ x.name = s)) ?hI (hmb2.iff fun s => by simp)
    (fun x args a₁ W' => ∃ Bx ox nx cx ob nb cb oe ne ce, args = #[.agg #[.int .i64 x.kind, .string x.name, .int .i64 x.n, .slice ox nx cx, .slice ob nb cb, .slice oe ne ce, .int .i64 x.pos]] ∧
      W'.heap[Bx]? = some (.cells #[.int .i64 x.kind, .string x.name, .int .i64 x.n, .slice ox nx cx, .slice ob nb cb, .slice oe ne ce, .int .i64 x.pos] 44) ∧ a₁ = { tmps := #[.agg #[.slice o0 p.consts.length q0, .slice o1 p.globals.length q1, .slice o2 p.sensors.length q2, .slice o3 p.outputs.length q3, .slice o4 p.channels.length q4, .slice o5 p.tasks.length q5], .slice oa l.length cap, .pointer (some ⟨w.heap.size, 0, none⟩), undef, .slice none 0 0, .pointer (some ⟨w.heap.size + 1 + 1, 0, none⟩), .pointer (some ⟨Bx, 0, none⟩), .map (some (w.heap.size + 1)), .slice oa l.length cap, .func (.func 103) #[] #[.pointer (some ⟨w.heap.size + 3, 0, none⟩)], .agg #[.int .i64 x.kind, .string x.name, .int .i64 x.n, .slice ox nx cx, .slice ob nb cb, .slice oe ne ce, .int .i64 x.pos], undef, undef, undef, undef, undef, undef, undef, undef, undef, undef, undef, undef, undef, undef, undef], defers := [] }) ?hAx ?assign ?body ?done
  case ok =>
    intro W1 hB1
    refine ⟨?_, hl.lift ((hBw2.mono hN).trans (hB1.mono (by omega)))⟩
    have := (hB1.block (w.heap.size + 3) (by omega)).trans hlb
    simp [World.cell?, this]
  case hI =>
    rintro pre A B h1 hAB
    have hlt := h1.lt
    obtain ⟨D, h2, h3⟩ := h1
    obtain ⟨es, clock, hb, F, hs, hD⟩ := h2
    exact ⟨D, ⟨es, clock, (hAB.block _ (by omega)).trans hb, F, hs, hD⟩, h3⟩
  case hAx =>
    rintro x args a₁ A l' r o ⟨Bx, ox, nx, cx, ob, nb, cb, oe, ne, ce, h1, h2, h3⟩ hl
    exact ⟨Bx, ox, nx, cx, ob, nb, cb, oe, ne, ce, h1, (World.putObj_heap_other (fun e => by subst e; rw [h2] at hl; cases hl)).trans h2, h3⟩
  case assign =>
    rintro l' m' pre x args W1 K hj htw ⟨ox, nx, cx, ob, nb, cb, oe, ne, ce, rfl, hxa, hxw⟩ hpre hK
    gi_wp2
    exact hK _ _ ⟨W1.heap.size, ox, nx, cx, ob, nb, cb, oe, ne, ce, rfl, World.alloc_heap_new W1 _, rfl⟩ ((Below.refl _ _).alloc (Nat.le_refl _) _)
  case body =>
    rintro l' m' pre x args a₁ W1 hj htw henc ⟨Bx, ox, nx, cx, ob, nb, cb, oe, ne, ce, rfl, hBx, rfl⟩ hpre hlt
    have hob1 := (htw.block (w.heap.size + 2) (by omega) (by omega)).trans hob2
    have co0 : W1.cell? ⟨w.heap.size + 1 + 1, 0, none⟩ = some (.map (some (w.heap.size + 1))) := by simp [World.cell?, hob1]
    have cx0 : W1.cell? ⟨Bx, 0, none⟩ = some (.int .i64 x.kind) := by simp [World.cell?, hBx]
    have cx1 : W1.cell? ⟨Bx, 1, none⟩ = some (.string x.name) := by simp [World.cell?, hBx]
    have hmem : x ∈ preS l := hpre.subset (by simp)
    have hsx := keyS (hf.t x hmem)
    have hpl : pre.length < maxLen := by
      have h1 := hpre.length_le
      have h2 := hf.m
      simp at h1
      unfold maxLen; omega
    clear henc hmem hpre
    obtain ⟨D, hown, hF⟩ := hj
    have HF := Lib.hid hF
    clear hF
    have UPD : ∀ (h23 : x.kind = 2 ∨ x.kind = 3) (w3 : World), MapD w3 (w.heap.size + 1) (pre.length + 1) (D.put (KS x.name) (.lit (.bool true))) → SetS w3 (w.heap.size + 1) (pre ++ [x]).length (fun s => ∃ y ∈ pre ++ [x], (y.kind = 2 ∨ y.kind = 3) ∧ y.name = s) := by
      intro h23 w3 h
      refine ⟨_, by simpa using h, fun s => ?_⟩
      rw [has_put hown.isMap, HF.out s]
      simp only [List.mem_append, List.mem_singleton]
      constructor
      · rintro (⟨y, hy, h1, h2⟩ | h2)
        · exact ⟨y, .inl hy, h1, h2⟩
        · exact ⟨x, .inr rfl, h23, h2⟩
      · rintro ⟨y, hy | rfl, h1, h2⟩
        · exact .inl ⟨y, hy, h1, h2⟩
        · exact .inr h2
    have HU := Lib.hid UPD
    clear UPD
    by_cases k2 : x.kind = 2
    · have t2 : (x.kind == 2) = true := beq_iff_eq.2 k2
      have hS9 := fun w3 h => HU.out (.inl k2) w3 h
      clear k2
      gi_wp2_with (gi_at_mapUpdate; refine wpListIn_mapUpdate_own _ rfl _ _ _ 100 rfl 9 4 lawS Tryz.underlying100 _ (w.heap.size + 1) pre.length D rfl hown hpl _ _ (KS x.name) rfl rfl hsx (.lit (.bool true)) [] (plainElem_bool Tryz.underlying4 true) ?_; intro w3 hown3 hg3)
      refine ⟨by simpa using hS9 _ hown3, (Turns.refl _ _).grown hg3 (fun k e => .inl (by cases e; rfl))⟩
    · have t2 : (x.kind == 2) = false := beq_eq_false_iff_ne.2 k2
      by_cases k3 : x.kind = 3
      · have t3 : (x.kind == 3) = true := beq_iff_eq.2 k3
        have hS9 := fun w3 h => HU.out (.inr k3) w3 h
        clear k2 k3
        gi_wp2_with (gi_at_mapUpdate; refine wpListIn_mapUpdate_own _ rfl _ _ _ 100 rfl 9 4 lawS Tryz.underlying100 _ (w.heap.size + 1) pre.length D rfl hown hpl _ _ (KS x.name) rfl rfl hsx (.lit (.bool true)) [] (plainElem_bool Tryz.underlying4 true) ?_; intro w3 hown3 hg3)
        refine ⟨by simpa using hS9 _ hown3, (Turns.refl _ _).grown hg3 (fun k e => .inl (by cases e; rfl))⟩
      · have t3 : (x.kind == 3) = false := beq_eq_false_iff_ne.2 k3
        have HIN := Lib.hid (show ¬ (x.kind = 2 ∨ x.kind = 3) from fun h => h.elim k2 k3)
        clear k2 k3
        gi_wp2
        have hS4 : SetS W1 (w.heap.size + 1) (pre ++ [x]).length (fun s => ∃ y ∈ pre ++ [x], (y.kind = 2 ∨ y.kind = 3) ∧ y.name = s) := ⟨D, hown.mono (by simp), fun s => by
          rw [HF.out s]
          simp only [List.mem_append, List.mem_singleton]
          constructor
          · rintro ⟨y, hy, h1, h2⟩
            exact ⟨y, .inl hy, h1, h2⟩
          · rintro ⟨y, hy | rfl, h1, h2⟩
            · exact ⟨y, hy, h1, h2⟩
            · exact absurd h1 HIN.out⟩
        first | exact ⟨by simpa using hS4, Turns.refl _ _⟩ | simpa using hS4
  case done =>
    rintro D W1 hj htw hK hD
    have hob1 := (htw.block (w.heap.size + 2) (by omega) (by omega)).trans hob2
    have hkb1 : Blk W1 w.heap.size #[.slice o0 p.consts.length q0, .slice o1 p.globals.length q1, .slice o2 p.sensors.length q2, .slice o3 p.outputs.length q3, .slice o4 p.channels.length q4, .slice o5 p.tasks.length q5] 28 := (htw.block w.heap.size (by omega) (by omega)).trans hkb2
    have co0 : W1.cell? ⟨w.heap.size + 1 + 1, 0, none⟩ = some (.map (some (w.heap.size + 1))) := by simp [World.cell?, hob1]
    have a0 := hkb1.cell 0 rfl
    have a1 := hkb1.cell 1 rfl
    have a2 := hkb1.cell 2 rfl
    have a3 := hkb1.cell 3 rfl
    have a4 := hkb1.cell 4 rfl
    have a5 := hkb1.cell 5 rfl
    have hBw1 : Below w.heap.size w W1 := hBw2.trans (htw.below (by omega) (fun k h => by omega))
    have hS1 : SetS W1 (w.heap.size + 1) 4000000 (fun s => ∃ x ∈ preS l, (x.kind = 2 ∨ x.kind = 3) ∧ x.name = s) := hj.mono hf.m
    have hBK : Below W1.heap.size W1 (W1.alloc (.cells #[.int .i64 2, .int .i64 3] 3)) := (Below.refl _ _).alloc (Nat.le_refl _) _
    have hnw := ints_new W1 [2, 3] (by simp)
    have HI := Lib.hid (indices_any p HDS.out _ (w.heap.size + 1) [2, 3] _ _ _ _ _ _ _ N _ (W1.alloc (.cells #[.int .i64 2, .int .i64 3] 3)) (hp.lift ((hBw1.mono hN).trans (hBK.mono (Nat.le_trans hN hBw1.size)))) (Nat.le_trans (Nat.le_trans hN hBw1.size) hBK.size) (hS1.later hBK) hnw (Nat.le_refl _))
    gi_wp2
    refine ⟨trivial, ?_⟩
    refine (callsIn_wide.2 HI.out).mono ?_
    rintro e w9 ⟨⟨v2, xs, rfl, hrow, hasc, hmem⟩, hB9⟩
    have e9 := idx_wrS (namesOf p) HDS.out l xs hasc hmem
    rw [e9] at hrow
    have hBA : Below W1.heap.size W1 w9 := hBK.trans (hB9.mono hBK.size)
    have hDl : D < W1.heap.size := (Array.getElem?_eq_some_iff.1 hK).1
    have hK9 := (hBA.block D hDl).trans hK
    gi_wp2
    refine ⟨by simp, .inl ⟨_, _, rfl, run_takeDeferred hK9, ?_⟩⟩
    have hB10 : Below w2.heap.size w9 (w9.putObj D (.deferred none)) := below_putObj (by omega) _
    have hrow2 : Row W1.heap.size w9 v2 (wrS (namesOf p) [] l) := OwnAt.base hrow hBK.size
    refine ⟨_, results_tmp rfl _ _ _, ⟨_, rfl, ?_⟩, (hBw1.trans (hBA.mono hBw1.size)).trans (hB10.mono (by omega))⟩
    refine OwnAt.base (B := W1.heap.size) (hrow2.kept (by simp) fun k hk => World.putObj_heap_other ?_) hBw1.size
    have := (hrow2.block k hk).1
    omega
end Go.Proofs.YtkfdnlfkomhmfaaGreatDoor

namespace Go.Proofs.YtkfdnlfkomhmfaaGreatDoor
open Go.RowKit
set_option linter.unusedVariables false
set_option linter.unusedSimpArgs false

theorem idx_prog {p : Prog} (n1 : p.consts.length ≤ 1048576) (n2 : p.globals.length ≤ 1048576) (n3 : p.sensors.length ≤ 1048576) (n4 : p.outputs.length ≤ 1048576) (n5 : p.channels.length ≤ 1048576) (n6 : p.tasks.length ≤ 1048576) : Idx (namesOf p) := by
  intro d hd
  simp only [namesOf, List.mem_append] at hd
  rcases hd with ((((hd | hd) | hd) | hd) | hd) | hd <;> obtain ⟨k, x, hx, rfl⟩ := mem_idx hd
  all_goals
    have hk := (List.getElem?_eq_some_iff.1 hx).1
    first | exact ⟨Int.natCast_nonneg k, by show (k : Int) < 1048576; omega⟩ | (simp only [nmG]; exact ⟨Int.natCast_nonneg k, by omega⟩)
theorem vlen29 {vs : List Value} (h : vs.length = 29) : ∃ u0 u1 u2 u3 u4 u5 u6 u7 u8 u9 u10 u11 u12 u13 u14 u15 u16 u17 u18 u19 u20 u21 u22 u23 u24 u25 u26 u27 u28, vs = [u0, u1, u2, u3, u4, u5, u6, u7, u8, u9, u10, u11, u12, u13, u14, u15, u16, u17, u18, u19, u20, u21, u22, u23, u24, u25, u26, u27, u28] := by
  obtain ⟨u0, t0, rfl⟩ := List.exists_cons_of_length_eq_add_one h
  replace h : t0.length = 28 := by simpa using h
  obtain ⟨u1, t1, rfl⟩ := List.exists_cons_of_length_eq_add_one h
  replace h : t1.length = 27 := by simpa using h
  obtain ⟨u2, t2, rfl⟩ := List.exists_cons_of_length_eq_add_one h
  replace h : t2.length = 26 := by simpa using h
  obtain ⟨u3, t3, rfl⟩ := List.exists_cons_of_length_eq_add_one h
  replace h : t3.length = 25 := by simpa using h
  obtain ⟨u4, t4, rfl⟩ := List.exists_cons_of_length_eq_add_one h
  replace h : t4.length = 24 := by simpa using h
  obtain ⟨u5, t5, rfl⟩ := List.exists_cons_of_length_eq_add_one h
  replace h : t5.length = 23 := by simpa using h
  obtain ⟨u6, t6, rfl⟩ := List.exists_cons_of_length_eq_add_one h
  replace h : t6.length = 22 := by simpa using h
  obtain ⟨u7, t7, rfl⟩ := List.exists_cons_of_length_eq_add_one h
  replace h : t7.length = 21 := by simpa using h
  obtain ⟨u8, t8, rfl⟩ := List.exists_cons_of_length_eq_add_one h
  replace h : t8.length = 20 := by simpa using h
  obtain ⟨u9, t9, rfl⟩ := List.exists_cons_of_length_eq_add_one h
  replace h : t9.length = 19 := by simpa using h
  obtain ⟨u10, t10, rfl⟩ := List.exists_cons_of_length_eq_add_one h
  replace h : t10.length = 18 := by simpa using h
  obtain ⟨u11, t11, rfl⟩ := List.exists_cons_of_length_eq_add_one h
  replace h : t11.length = 17 := by simpa using h
  obtain ⟨u12, t12, rfl⟩ := List.exists_cons_of_length_eq_add_one h
  replace h : t12.length = 16 := by simpa using h
  obtain ⟨u13, t13, rfl⟩ := List.exists_cons_of_length_eq_add_one h
  replace h : t13.length = 15 := by simpa using h
  obtain ⟨u14, t14, rfl⟩ := List.exists_cons_of_length_eq_add_one h
  replace h : t14.length = 14 := by simpa using h
  obtain ⟨u15, t15, rfl⟩ := List.exists_cons_of_length_eq_add_one h
  replace h : t15.length = 13 := by simpa using h
  obtain ⟨u16, t16, rfl⟩ := List.exists_cons_of_length_eq_add_one h
  replace h : t16.length = 12 := by simpa using h
  obtain ⟨u17, t17, rfl⟩ := List.exists_cons_of_length_eq_add_one h
  replace h : t17.length = 11 := by simpa using h
  obtain ⟨u18, t18, rfl⟩ := List.exists_cons_of_length_eq_add_one h
  replace h : t18.length = 10 := by simpa using h
  obtain ⟨u19, t19, rfl⟩ := List.exists_cons_of_length_eq_add_one h
  replace h : t19.length = 9 := by simpa using h
  obtain ⟨u20, t20, rfl⟩ := List.exists_cons_of_length_eq_add_one h
  replace h : t20.length = 8 := by simpa using h
  obtain ⟨u21, t21, rfl⟩ := List.exists_cons_of_length_eq_add_one h
  replace h : t21.length = 7 := by simpa using h
  obtain ⟨u22, t22, rfl⟩ := List.exists_cons_of_length_eq_add_one h
  replace h : t22.length = 6 := by simpa using h
  obtain ⟨u23, t23, rfl⟩ := List.exists_cons_of_length_eq_add_one h
  replace h : t23.length = 5 := by simpa using h
  obtain ⟨u24, t24, rfl⟩ := List.exists_cons_of_length_eq_add_one h
  replace h : t24.length = 4 := by simpa using h
  obtain ⟨u25, t25, rfl⟩ := List.exists_cons_of_length_eq_add_one h
  replace h : t25.length = 3 := by simpa using h
  obtain ⟨u26, t26, rfl⟩ := List.exists_cons_of_length_eq_add_one h
  replace h : t26.length = 2 := by simpa using h
  obtain ⟨u27, t27, rfl⟩ := List.exists_cons_of_length_eq_add_one h
  replace h : t27.length = 1 := by simpa using h
  obtain ⟨u28, t28, rfl⟩ := List.exists_cons_of_length_eq_add_one h
  replace h : t28.length = 0 := by simpa using h
  obtain rfl := List.eq_nil_of_length_eq_zero h
  exact ⟨_, _, _, _, _, _, _, _, _, _, _, _, _, _, _, _, _, _, _, _, _, _, _, _, _, _, _, _, _, rfl⟩

set_option maxRecDepth 100000 in
set_option maxHeartbeats 8000000 in
theorem lawAcc_any (p : Prog) (l : List Stmt) (v0 v1 v2 v3 v4 v5 v : Value) (N : Nat) (w : World) (hp : ProgAt N w v0 v1 v2 v3 v4 v5 p) (hl : StmtsAt N w v l) (hN : N ≤ w.heap.size) (hT : Tabs w) (hts : ∀ t ∈ p.tasks, sszs t.body ≤ 1048576) (hls : sszs l ≤ 1048576) :
    Calls Tryz.prog 8 #[.agg #[v0, v1, v2, v3, v4, v5], v] w fun e w' => e = .returned (.bool true) ∧ Below w.heap.size w w' := by
  obtain ⟨o0, q0, rfl, _, _, n0⟩ := SliceAt.slice hp.consts
  obtain ⟨o1, q1, rfl, _, _, n1⟩ := SliceAt.slice hp.globals
  obtain ⟨o2, q2, rfl, _, _, n2⟩ := SliceAt.slice hp.sensors
  obtain ⟨o3, q3, rfl, _, _, n3⟩ := SliceAt.slice hp.outputs
  obtain ⟨o4, q4, rfl, _, _, n4⟩ := SliceAt.slice hp.channels
  obtain ⟨o5, q5, rfl, _, _, n5⟩ := hp.tasks.slice
  obtain ⟨ol, cl, rfl, _, _, nl⟩ := hl.slice
  have HTS := Lib.hid hts
  have HDS := Lib.hid (idx_prog n0 n1 n2 n3 n4 n5)
  have HLS := Lib.hid hls
  have hf := Fits.of hls
  have HGR := Lib.hid (good_usS HDS.out false _ l [] (Nat.le_refl _) Good.nil)
  have HGS := Lib.hid (good_usS HDS.out true _ l [] (Nat.le_refl _) Good.nil)
  have HGW := Lib.hid (good_wrS HDS.out _ l [] (Nat.le_refl _) Good.nil)
  clear hts hls
  go_enter Tryz.func8, Tryz.ntmps8
  go_upto_region 1 with fail
  have hA := Blk.new w #[.slice o0 p.consts.length q0, .slice o1 p.globals.length q1, .slice o2 p.sensors.length q2, .slice o3 p.outputs.length q3, .slice o4 p.channels.length q4, .slice o5 p.tasks.length q5] 28
  have hWB := (Below.refl w.heap.size w).alloc (Nat.le_refl _) (.cells #[.slice o0 p.consts.length q0, .slice o1 p.globals.length q1, .slice o2 p.sensors.length q2, .slice o3 p.outputs.length q3, .slice o4 p.channels.length q4, .slice o5 p.tasks.length q5] 28)
  generalize w.alloc (.cells #[.slice o0 p.consts.length q0, .slice o1 p.globals.length q1, .slice o2 p.sensors.length q2, .slice o3 p.outputs.length q3, .slice o4 p.channels.length q4, .slice o5 p.tasks.length q5] 28) = W at hA hWB ⊢
  have a0 := hA.cell 0 rfl
  have a1 := hA.cell 1 rfl
  have a2 := hA.cell 2 rfl
  have a3 := hA.cell 3 rfl
  have a4 := hA.cell 4 rfl
  have a5 := hA.cell 5 rfl
  have hp' := hp.lift (hWB.mono hN)
  have hl' := hl.lift (hWB.mono hN)
  have hNW := Nat.le_trans hN hWB.size
  have HTW := Lib.hid (hT.later hWB)
  have HSM := Lib.hid (Small_any p _ _ _ _ _ _ N _ hp' hNW (fun t ht => Nat.le_trans (HTS.out t ht) (by omega)))
  clear hT hp hl
  cases hsm : smallB p
  · rw [hsm] at HSM
    clear hsm
    go_wp2_with (first
      | (go_at_call 10; refine HSM.out.mono ?_; rintro e w1 ⟨rfl, hB1⟩)
      | (go_at_call 11; refine (examples_any _ (HTW.out.later hB1)).mono ?_; rintro e w2 ⟨rfl, hB2⟩))
    go_ret
    exact ⟨rfl, hWB.trans ((hB1.trans (hB2.mono hB1.size)).mono hWB.size)⟩
  · rw [hsm] at HSM
    clear hsm
    have HSZ : Hid (∀ (w1 : World), Below W.heap.size W w1 → Calls Tryz.prog 17 #[.slice ol l.length cl] w1 fun e w' => e = .returned (.int .i64 ((sszs l : Nat) : Int)) ∧ Below w1.heap.size w1 w') := Lib.hid fun w1 hB1 =>
      Size_any _ l _ N w1 (Nat.lt_succ_self _) (hl'.lift (hB1.mono hNW)) (Nat.le_trans hNW hB1.size) (Nat.le_trans HLS.out (by omega))
    by_cases hbig : 500 < sszs l
    · have tb : decide (((sszs l : Nat) : Int) > 500) = true := decide_eq_true (by omega)
      clear hbig
      generalize sszs l = Z at HSZ tb
      go_wp2_with (first
        | (go_at_call 10; refine HSM.out.mono ?_; rintro e w1 ⟨rfl, hB1⟩)
        | (go_at_call 17; refine (HSZ.out _ hB1).mono ?_; rintro e w2 ⟨rfl, hB2⟩)
        | (go_at_call 11; refine (examples_any _ ((HTW.out.later hB1).later hB2)).mono ?_; rintro e w3 ⟨rfl, hB3⟩))
      go_ret
      exact ⟨rfl, hWB.trans ((hB1.trans ((hB2.trans (hB3.mono hB2.size)).mono hB1.size)).mono hWB.size)⟩
    · have tb : decide (((sszs l : Nat) : Int) > 500) = false := decide_eq_false (by omega)
      clear hbig
      have HZ := Lib.hid HSZ
      generalize sszs l = Z at HSZ tb
      go_wp2_with (first
        | (go_at_call 10; refine HSM.out.mono ?_; rintro e w1 ⟨rfl, hB1⟩)
        | (go_at_call 17; refine (HSZ.out _ hB1).mono ?_; rintro e w2 ⟨rfl, hB2⟩))
      have hBQ := hB1.trans (hB2.mono hB1.size)
      refine wp_region_spec [Sp.is (.agg #[.slice o0 p.consts.length q0, .slice o1 p.globals.length q1, .slice o2 p.sensors.length q2, .slice o3 p.outputs.length q3, .slice o4 p.channels.length q4, .slice o5 p.tasks.length q5]), Sp.is (.slice ol l.length cl), Sp.row W.heap.size (usS (namesOf p) false [] l), Sp.is (.agg #[.slice o0 p.consts.length q0, .slice o1 p.globals.length q1, .slice o2 p.sensors.length q2, .slice o3 p.outputs.length q3, .slice o4 p.channels.length q4, .slice o5 p.tasks.length q5]), Sp.is (.slice ol l.length cl), Sp.row W.heap.size (usS (namesOf p) false [] l), Sp.is (.bool true), Sp.is (.bool true), Sp.is (.agg #[.slice o0 p.consts.length q0, .slice o1 p.globals.length q1, .slice o2 p.sensors.length q2, .slice o3 p.outputs.length q3, .slice o4 p.channels.length q4, .slice o5 p.tasks.length q5]), Sp.is (.slice ol l.length cl), Sp.row W.heap.size (wrS (namesOf p) [] l), Sp.is (.agg #[.slice o0 p.consts.length q0, .slice o1 p.globals.length q1, .slice o2 p.sensors.length q2, .slice o3 p.outputs.length q3, .slice o4 p.channels.length q4, .slice o5 p.tasks.length q5]), Sp.is (.slice ol l.length cl), Sp.row W.heap.size (wrS (namesOf p) [] l), Sp.is (.bool true), Sp.is (.bool true), Sp.is (.bool true), Sp.is (.agg #[.slice o0 p.consts.length q0, .slice o1 p.globals.length q1, .slice o2 p.sensors.length q2, .slice o3 p.outputs.length q3, .slice o4 p.channels.length q4, .slice o5 p.tasks.length q5]), Sp.is (.slice ol l.length cl), Sp.row W.heap.size (usS (namesOf p) true [] l), Sp.is (.agg #[.slice o0 p.consts.length q0, .slice o1 p.globals.length q1, .slice o2 p.sensors.length q2, .slice o3 p.outputs.length q3, .slice o4 p.channels.length q4, .slice o5 p.tasks.length q5]), Sp.is (.slice ol l.length cl), Sp.row W.heap.size (usS (namesOf p) true [] l), Sp.is (.bool true), Sp.is (.bool true), Sp.is (.bool true), Sp.is (.bool true), Sp.is (.bool true), Sp.is (.bool true)] mixed (by kernel_rfl) (by kernel_rfl) rfl (by kernel_rfl) ?step ?fin
      case step =>
        intro vs W9 hvl hVB
        obtain ⟨u0, u1, u2, u3, u4, u5, u6, u7, u8, u9, u10, u11, u12, u13, u14, u15, u16, u17, u18, u19, u20, u21, u22, u23, u24, u25, u26, u27, u28, rfl⟩ := vlen29 hvl
        have hAV := (hA.later hBQ).later hVB
        have a0 := hAV.cell 0 rfl
        have a1 := hAV.cell 1 rfl
        have a2 := hAV.cell 2 rfl
        have a3 := hAV.cell 3 rfl
        have a4 := hAV.cell 4 rfl
        have a5 := hAV.cell 5 rfl
        have hBW9 := hBQ.trans (hVB.mono hBQ.size)
        have hpV := hp'.lift (hBW9.mono hNW)
        have hlV := hl'.lift (hBW9.mono hNW)
        have hNV := Nat.le_trans hNW hBW9.size
        have hBV := hBW9.size
        have hTV := HTW.out.later hBW9
        simp only [frameOf, List.zip_cons_cons, List.zip_nil_left, List.foldl_cons, List.foldl_nil, Act.put, List.setIfInBounds_toArray, List.set_cons_succ, List.set_cons_zero]
        refine ⟨fun hd ho => ?_, fun hd ho => ?_, fun hd ho => ?_, fun hd ho => ?_, fun hd ho => ?_, fun hd ho => ?_, fun hd ho => ?_, fun hd ho => ?_, fun hd ho => ?_, fun hd ho => ?_, fun hd ho => ?_, fun hd ho => ?_, fun hd ho => ?_, fun hd ho => ?_, fun hd ho => ?_, fun hd ho => ?_, fun hd ho => ?_, fun hd ho => ?_, fun hd ho => ?_, fun hd ho => ?_, fun hd ho => ?_, fun hd ho => ?_, fun hd ho => ?_, fun hd ho => ?_, fun hd ho => ?_, fun hd ho => ?_, fun hd ho => ?_, fun hd ho => ?_, fun hd ho => ?_, trivial⟩
        · go_wp2_with fail
          exact ⟨rfl, _, rfl, Below.refl _ _, rfl⟩
        · go_wp2_with fail
          exact ⟨rfl, _, rfl, Below.refl _ _, rfl⟩
        · have h0 := deps_get hd 0 rfl
          change u0 = _ at h0
          subst h0
          have h1 := deps_get hd 1 rfl
          change u1 = _ at h1
          subst h1
          go_wp2_with (go_at_call 23; refine (Reads_any p HDS.out l _ _ _ _ _ _ _ N W9 hpV hlV hNV hf).mono ?_; rintro e w2 ⟨⟨v2, rfl, hO2⟩, hB2⟩)
          exact ⟨rfl, v2, rfl, hB2, OwnAt.base hO2 hBV⟩
        · go_wp2_with fail
          exact ⟨rfl, _, rfl, Below.refl _ _, rfl⟩
        · go_wp2_with fail
          exact ⟨rfl, _, rfl, Below.refl _ _, rfl⟩
        · have h3 := deps_get hd 3 rfl
          change u3 = _ at h3
          subst h3
          have h4 := deps_get hd 4 rfl
          change u4 = _ at h4
          subst h4
          go_wp2_with (go_at_call 24; refine (rReads_any p HDS.out l _ _ _ _ _ _ _ N W9 hpV hlV hNV).mono ?_; rintro e w2 ⟨⟨v2, rfl, hO2⟩, hB2⟩)
          exact ⟨rfl, v2, rfl, hB2, OwnAt.base hO2 hBV⟩
        · have h2 := deps_get hd 2 rfl
          change Row _ _ u2 _ at h2
          have h5 := deps_get hd 5 rfl
          change Row _ _ u5 _ at h5
          go_wp2_with (go_at_call 22; refine (rsame_any (usS (namesOf p) false [] l) _ _ _ _ W9 h2 h5 HGR.out.len).mono ?_; rintro e w2 ⟨rfl, hB2⟩)
          exact ⟨rfl, _, rfl, hB2, rfl⟩
        · have h6 := deps_get hd 6 rfl
          change u6 = _ at h6
          subst h6
          go_wp2_with fail
          exact ⟨rfl, _, rfl, Below.refl _ _, rfl⟩
        · have h7 := deps_get hd 7 rfl
          change u7 = _ at h7
          subst h7
          go_wp2_with fail
          exact ⟨rfl, _, rfl, Below.refl _ _, rfl⟩
        · have h7 := deps_get hd 7 rfl
          change u7 = _ at h7
          subst h7
          go_wp2_with fail
          exact ⟨rfl, _, rfl, Below.refl _ _, rfl⟩
        · have h7 := deps_get hd 7 rfl
          change u7 = _ at h7
          subst h7
          have h8 := deps_get hd 8 rfl
          change u8 = _ at h8
          subst h8
          have h9 := deps_get hd 9 rfl
          change u9 = _ at h9
          subst h9
          go_wp2_with (go_at_call 25; refine (Writes_any p HDS.out l _ _ _ _ _ _ _ N W9 hpV hlV hNV hf).mono ?_; rintro e w2 ⟨⟨v2, rfl, hO2⟩, hB2⟩)
          exact ⟨rfl, v2, rfl, hB2, OwnAt.base hO2 hBV⟩
        · have h7 := deps_get hd 7 rfl
          change u7 = _ at h7
          subst h7
          go_wp2_with fail
          exact ⟨rfl, _, rfl, Below.refl _ _, rfl⟩
        · have h7 := deps_get hd 7 rfl
          change u7 = _ at h7
          subst h7
          go_wp2_with fail
          exact ⟨rfl, _, rfl, Below.refl _ _, rfl⟩
        · have h7 := deps_get hd 7 rfl
          change u7 = _ at h7
          subst h7
          have h11 := deps_get hd 11 rfl
          change u11 = _ at h11
          subst h11
          have h12 := deps_get hd 12 rfl
          change u12 = _ at h12
          subst h12
          go_wp2_with (go_at_call 26; refine (rWrites_any p HDS.out (sszs l + 1) l _ _ _ _ _ _ _ N W9 (Nat.lt_succ_self _) hpV hlV hNV).mono ?_; rintro e w2 ⟨⟨v2, rfl, hO2⟩, hB2⟩)
          exact ⟨rfl, v2, rfl, hB2, OwnAt.base hO2 hBV⟩
        · have h7 := deps_get hd 7 rfl
          change u7 = _ at h7
          subst h7
          have h10 := deps_get hd 10 rfl
          change Row _ _ u10 _ at h10
          have h13 := deps_get hd 13 rfl
          change Row _ _ u13 _ at h13
          go_wp2_with (go_at_call 22; refine (rsame_any (wrS (namesOf p) [] l) _ _ _ _ W9 h10 h13 HGW.out.len).mono ?_; rintro e w2 ⟨rfl, hB2⟩)
          exact ⟨rfl, _, rfl, hB2, rfl⟩
        · have h7 := deps_get hd 7 rfl
          change u7 = _ at h7
          subst h7
          have h14 := deps_get hd 14 rfl
          change u14 = _ at h14
          subst h14
          go_wp2_with fail
          exact ⟨rfl, _, rfl, Below.refl _ _, rfl⟩
        · have h15 := deps_get hd 15 rfl
          change u15 = _ at h15
          subst h15
          go_wp2_with fail
          exact ⟨rfl, _, rfl, Below.refl _ _, rfl⟩
        · have h16 := deps_get hd 16 rfl
          change u16 = _ at h16
          subst h16
          go_wp2_with fail
          exact ⟨rfl, _, rfl, Below.refl _ _, rfl⟩
        · have h16 := deps_get hd 16 rfl
          change u16 = _ at h16
          subst h16
          go_wp2_with fail
          exact ⟨rfl, _, rfl, Below.refl _ _, rfl⟩
        · have h16 := deps_get hd 16 rfl
          change u16 = _ at h16
          subst h16
          have h17 := deps_get hd 17 rfl
          change u17 = _ at h17
          subst h17
          have h18 := deps_get hd 18 rfl
          change u18 = _ at h18
          subst h18
          go_wp2_with (go_at_call 27; refine (Sensors_any p HDS.out l _ _ _ _ _ _ _ N W9 hpV hlV hNV hf).mono ?_; rintro e w2 ⟨⟨v2, rfl, hO2⟩, hB2⟩)
          exact ⟨rfl, v2, rfl, hB2, OwnAt.base hO2 hBV⟩
        · have h16 := deps_get hd 16 rfl
          change u16 = _ at h16
          subst h16
          go_wp2_with fail
          exact ⟨rfl, _, rfl, Below.refl _ _, rfl⟩
        · have h16 := deps_get hd 16 rfl
          change u16 = _ at h16
          subst h16
          go_wp2_with fail
          exact ⟨rfl, _, rfl, Below.refl _ _, rfl⟩
        · have h16 := deps_get hd 16 rfl
          change u16 = _ at h16
          subst h16
          have h20 := deps_get hd 20 rfl
          change u20 = _ at h20
          subst h20
          have h21 := deps_get hd 21 rfl
          change u21 = _ at h21
          subst h21
          go_wp2_with (go_at_call 28; refine (rSensors_any p HDS.out l _ _ _ _ _ _ _ N W9 hpV hlV hNV).mono ?_; rintro e w2 ⟨⟨v2, rfl, hO2⟩, hB2⟩)
          exact ⟨rfl, v2, rfl, hB2, OwnAt.base hO2 hBV⟩
        · have h16 := deps_get hd 16 rfl
          change u16 = _ at h16
          subst h16
          have h19 := deps_get hd 19 rfl
          change Row _ _ u19 _ at h19
          have h22 := deps_get hd 22 rfl
          change Row _ _ u22 _ at h22
          go_wp2_with (go_at_call 22; refine (rsame_any (usS (namesOf p) true [] l) _ _ _ _ W9 h19 h22 HGS.out.len).mono ?_; rintro e w2 ⟨rfl, hB2⟩)
          exact ⟨rfl, _, rfl, hB2, rfl⟩
        · have h16 := deps_get hd 16 rfl
          change u16 = _ at h16
          subst h16
          have h23 := deps_get hd 23 rfl
          change u23 = _ at h23
          subst h23
          go_wp2_with fail
          exact ⟨rfl, _, rfl, Below.refl _ _, rfl⟩
        · have h24 := deps_get hd 24 rfl
          change u24 = _ at h24
          subst h24
          go_wp2_with fail
          exact ⟨rfl, _, rfl, Below.refl _ _, rfl⟩
        · have h25 := deps_get hd 25 rfl
          change u25 = _ at h25
          subst h25
          go_wp2_with (go_at_call 11; refine (examples_any W9 hTV).mono ?_; rintro e w2 ⟨rfl, hB2⟩)
          exact ⟨rfl, _, rfl, hB2, rfl⟩
        · have h25 := deps_get hd 25 rfl
          change u25 = _ at h25
          subst h25
          have h26 := deps_get hd 26 rfl
          change u26 = _ at h26
          subst h26
          go_wp2_with fail
          exact ⟨rfl, _, rfl, Below.refl _ _, rfl⟩
        · have h27 := deps_get hd 27 rfl
          change u27 = _ at h27
          subst h27
          go_wp2_with fail
          exact ⟨rfl, _, rfl, Below.refl _ _, rfl⟩
      case fin =>
        intro vs W9 hvl hVB hall
        obtain ⟨u0, u1, u2, u3, u4, u5, u6, u7, u8, u9, u10, u11, u12, u13, u14, u15, u16, u17, u18, u19, u20, u21, u22, u23, u24, u25, u26, u27, u28, rfl⟩ := vlen29 hvl
        simp only [frameOf, List.zip_cons_cons, List.zip_nil_left, List.foldl_cons, List.foldl_nil, Act.put, List.setIfInBounds_toArray, List.set_cons_succ, List.set_cons_zero]
        have h28 := hall.2.2.2.2.2.2.2.2.2.2.2.2.2.2.2.2.2.2.2.2.2.2.2.2.2.2.2.2.1
        change u28 = _ at h28
        subst h28
        clear hall
        go_wp2_with fail
        go_ret
        exact ⟨rfl, hWB.trans ((hBQ.trans (hVB.mono hBQ.size)).mono hWB.size)⟩
end Go.Proofs.YtkfdnlfkomhmfaaGreatDoor
