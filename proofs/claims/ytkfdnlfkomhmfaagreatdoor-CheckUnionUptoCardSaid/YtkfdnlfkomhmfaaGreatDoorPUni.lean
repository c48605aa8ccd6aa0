/- CheckUnion answers true at every input whose reading, with the package variables that the row lists, is of bulk at most 1048576; the input reads behind the call as it read before. Conditions: the row's own (the bulk; the listed variables hold what the program's text lays, which the card ties). -/
import Derived.Test.YtkfdnlfkomhmfaaGreatDoorCards
import Derived.Test.YtkfdnlfkomhmfaaGreatDoorTie
import Derived.Test.YtkfdnlfkomhmfaaGreatDoorTabs
import Derived.Test.YtkfdnlfkomhmfaaGreatDoorBridge
import Derived.Test.YtkfdnlfkomhmfaaGreatDoorLawU
import Derived.WalkKit
import Derived.ProofKit
import Derived.OpenShut
import Derived.Deep.DeepHandedRow
import Derived.Deep.DeepWitnessRowRef
import Derived.ChangeMaps5
namespace Go.Proofs.YtkfdnlfkomhmfaaGreatDoor.checkUnion
open Go.ChangeShapes Go.WideShapes Go.ChangeAt Go.RowKit
open Go.ChangeMaps (open_string shut_string)
set_option linter.unusedVariables false
set_option linter.unusedSimpArgs false
set_option maxRecDepth 100000

theorem own : ownKnob Tryz.prog.godebug = none := by kernel_rfl
/-- a world for the witness: the settled one, the three variables holding what their initialisers lay -/
noncomputable def laidWorld (os : Os) : World :=
  let n := (World.settled Tryz.prog os).heap.size
  let w0 := World.holding Tryz.prog os ⟨#[.cells (([9, 13, 1, 32, 133, 101, 160, 5760, 5600, 8192, 8202, 1, 8232, 8233, 1, 8239, 8287, 48, 12288, 12288, 1] : List Int).map fun z => Value.int .u16 z).toArray 231, .cells #[.slice (some ⟨n, 0, none⟩) 7 7, .slice none 0 0, .int .i64 2] 228], #[], []⟩
  let put (h : Array Obj) (g : Nat) (cs : Array Value) : Array Obj := h.modify g fun
    | .cells _ t frozen => .cells cs t frozen
    | o => o
  let h1 := put w0.heap 1 (Lib.asciiSpaceTab.map fun z => Value.int .u8 z).toArray
  let h2 := put h1 0 #[.bool false, .bool false, .bool false, .bool false, .int .i64 0, .bool true, .bool false, .bool false, .bool false, .int .i64 1, .bool true, .bool false, .bool false, .bool false, .int .i64 1, .bool true, .bool false, .bool false, .bool false, .int .i64 2, .bool false, .bool false, .bool true, .bool true, .int .i64 1, .bool false, .bool true, .bool true, .bool false, .int .i64 0, .bool false, .bool false, .bool true, .bool false, .int .i64 1, .bool true, .bool false, .bool false, .bool false, .int .i64 1, .bool false, .bool false, .bool false, .bool false, .int .i64 1, .bool true, .bool false, .bool false, .bool false, .int .i64 1, .bool false, .bool true, .bool true, .bool false, .int .i64 0, .bool false, .bool true, .bool true, .bool false, .int .i64 0, .bool false, .bool false, .bool false, .bool false, .int .i64 0, .bool false, .bool false, .bool false, .bool false, .int .i64 0]
  let h3 := put h2 2 #[.pointer (some ⟨n + 1, 0, none⟩)]
  { w0 with heap := h3 }
theorem laid_met (os : Os) (args : Array Value) : laidMet Tryz.prog Rows.checkUnionUptoRow.laid ((laidWorld os).forCall (fun _ _ => 0) ⟨#[], args, []⟩).memory :=
  laidMet_of_run' 12 (by kernel_rfl) (by kernel_rfl)

theorem agg_of {v : Value} {a0 a1 a2 a3 a4 a5 : Value} (h : v.cells.toList = [a0, a1, a2, a3, a4, a5]) : v = .agg #[a0, a1, a2, a3, a4, a5] := by
  cases v with
  | agg cs =>
    have : cs.toList = [a0, a1, a2, a3, a4, a5] := h
    obtain ⟨l⟩ := cs
    simp at this
    rw [this]
  | _ => simp [Value.cells] at h
theorem readable : Tryz.prog.readableRec 28 = true := by kernel_rfl
theorem readable2 : Tryz.prog.readableRec 42 = true := by kernel_rfl
theorem laidOut : laidOutB Tryz.prog = true := by kernel_rfl

theorem contract (H : Type) (enc : TypeId × Value → H) (W : World) (base : Nat) (args : Array Value) (ds gs : List (DataW H)) (before : List MemPlace)
    (hval : ∀ (j : Nat) t v, Tryz.f9.params[j]? = some t → args[j]? = some v → Value.okWide Tryz.prog W .any base t v)
    (hW : DataW.Whole enc Tryz.prog Tryz.f9.params.toList Rows.checkUnionSpec.vars false W args.toList ds gs before) (hk : Rows.uptoSmall H (ds ++ gs) = true) (hL : laidMetH Tryz.prog Rows.checkUnionUptoRow.laid W) :
    Calls Tryz.prog 9 args W fun e W' => ∃ v, e = .returned v ∧ Rows.checkUnionSpec.post enc Tryz.prog Tryz.f9 false true false false W args v W' := by
  have hW' := hW
  have hlt := hW.lt
  obtain ⟨p, q, hA0, hV, rfl, hfz, hnd⟩ := hW
  have hA : DataW.TrodAll enc Tryz.prog W 0 (fun _ => true) true Tryz.f9.params.toList args.toList ds p := hA0
  rw [Tryz.params9] at hA hval
  obtain ⟨v0, vs0, d0, ds0, p0, q0, hargs, rfl, rfl, h0, r0⟩ := trodAll_cons hA
  obtain ⟨v1, vs1, d1, ds1, p1, q1, rfl, rfl, rfl, h1, r1⟩ := trodAll_cons r0
  obtain ⟨v2, vs2, d2, ds2, p2, q2, rfl, rfl, rfl, h2, r2⟩ := trodAll_cons r1
  obtain ⟨rfl, rfl, rfl⟩ := trodAll_nil r2
  obtain rfl : args = #[v0, v1, v2] := by cases args; simp_all
  obtain ⟨rfl, rfl⟩ := trodVars_none hV
  clear hA0
  have hbulk : Rows.uptoBulk d0 + Rows.uptoBulk d1 + Rows.uptoBulk d2 ≤ 1048576 := by
    have := of_decide_eq_true (show decide (Rows.uptoBulkAll ([d0, d1, d2] ++ []) ≤ 1048576) = true from hk)
    simp [Rows.uptoBulkAll] at this
    omega
  have hT : Tabs W := tabs_of hL
  have h0k := h0
  have h1k := h1
  have h2k := h2
  obtain ⟨f0, h0⟩ := h0
  obtain ⟨a0, a1, a2, a3, a4, a5, pr, hcs, hp, hts⟩ := prog_of h0 (by show Rows.uptoBulk d0 ≤ _; omega)
  obtain rfl := agg_of hcs
  obtain ⟨b1, len1, cap1, rfl⟩ := okWide_slice Tryz.underlying42 (hval 1 42 _ rfl rfl)
  obtain ⟨f1, h1⟩ := h1
  obtain ⟨xs1, hxs1, hsz1⟩ := stmts_of f1 f1 _ _ (Nat.le_refl _) h1 (by show Rows.uptoBulk d1 ≤ _; omega)
  obtain ⟨b2, len2, cap2, rfl⟩ := okWide_slice Tryz.underlying42 (hval 2 42 _ rfl rfl)
  obtain ⟨f2, h2⟩ := h2
  obtain ⟨xs2, hxs2, hsz2⟩ := stmts_of f2 f2 _ _ (Nat.le_refl _) h2 (by show Rows.uptoBulk d2 ≤ _; omega)
  refine (lawUni_any pr xs1 xs2 _ _ _ _ _ _ _ _ W.heap.size W hp hxs1 hxs2 (Nat.le_refl _) hT hts (by have : sszs xs1 + 1 ≤ Rows.uptoBulk d1 := hsz1; omega) (by have : sszs xs2 + 1 ≤ Rows.uptoBulk d2 := hsz2; omega)).mono fun e W' ⟨he, hB⟩ => ?_
  subst he
  have g0 := Below.trod laidOut readable (of_decide_eq_true (by kernel_rfl)) h0k hB (fun x hx => hlt x (List.mem_append_left _ (List.mem_append_left _ hx)))
  have g1 := Below.trod laidOut readable2 (of_decide_eq_true (by kernel_rfl)) h1k hB (fun x hx => hlt x (List.mem_append_left _ (List.mem_append_right _ (List.mem_append_left _ hx))))
  have g2 := Below.trod laidOut readable2 (of_decide_eq_true (by kernel_rfl)) h2k hB (fun x hx => hlt x (List.mem_append_left _ (List.mem_append_right _ (List.mem_append_right _ (List.mem_append_left _ hx)))))
  have gr : DataW.TrodAll enc Tryz.prog W' W.heap.size (fun _ => false) false Tryz.f9.resultTypes.toList ((Value.bool true).resultList Tryz.f9.resultTypes.size) [.lit (.bool true)] [] := trodAll_cons_mk (shut_bool Tryz.underlying4 _) trodAll_mk0
  exact ⟨_, rfl, ⟨_, _, _, [], _, [], hW', gr, trodAll_cons_mk g0 (trodAll_cons_mk g1 (trodAll_cons_mk g2 trodAll_mk0)), rfl, hB.frame _, fun h => by cases h⟩⟩

theorem reads (os : Os) {H : Type} (enc : TypeId × Value → H) : ∃ places, DataW.whole enc Tryz.prog ((laidWorld os).forCall (fun _ _ => 0) ⟨#[], #[.agg #[.slice none 0 0, .slice none 0 0, .slice none 0 0, .slice none 0 0, .slice none 0 0, .slice none 0 0], .slice none 0 0, .slice none 0 0], []⟩).memory Tryz.f9.params.toList Rows.checkUnionSpec.vars false (#[.agg #[.slice none 0 0, .slice none 0 0, .slice none 0 0, .slice none 0 0, .slice none 0 0, .slice none 0 0], .slice none 0 0, .slice none 0 0] : Array Value).toList 8 = some ([.agg [.nil, .nil, .nil, .nil, .nil, .nil], .nil, .nil], [], places) := by
  have hw : (DataW.whole enc Tryz.prog ((laidWorld os).forCall (fun _ _ => 0) ⟨#[], #[.agg #[.slice none 0 0, .slice none 0 0, .slice none 0 0, .slice none 0 0, .slice none 0 0, .slice none 0 0], .slice none 0 0, .slice none 0 0], []⟩).memory Tryz.f9.params.toList Rows.checkUnionSpec.vars false (#[.agg #[.slice none 0 0, .slice none 0 0, .slice none 0 0, .slice none 0 0, .slice none 0 0, .slice none 0 0], .slice none 0 0, .slice none 0 0] : Array Value).toList 8).map (fun x => (x.1, x.2.1)) = some ([.agg [.nil, .nil, .nil, .nil, .nil, .nil], .nil, .nil], []) := by kernel_rfl
  obtain ⟨⟨x1, x2, x3⟩, hx, hx1⟩ := Option.map_eq_some_iff.1 hw
  simp only [Prod.mk.injEq] at hx1
  obtain ⟨rfl, rfl⟩ := hx1
  exact ⟨x3, hx⟩
theorem liftedUpto (os : Os) (started : os.Started) (H : Type) (enc : TypeId × Value → H) (F : Stop.Interp) :
    ReturnsInHanded {} Tryz.checked os 9 .any ((Rows.OpenSpec.upto Rows.checkUnionSpec).preRow enc Tryz.prog Tryz.f9 Rows.checkUnionUptoRow.domain false Rows.checkUnionUptoRow.laid) (((Rows.OpenSpec.upto Rows.checkUnionSpec).at F).post enc Tryz.prog Tryz.f9 false true false false) := by
  obtain ⟨places, hx⟩ := reads os enc
  refine returnsInHanded_of_row (C := Tryz.checked) (s := Rows.OpenSpec.upto Rows.checkUnionSpec) own started (by kernel_rfl) Tryz.func9
    (witness_row_atRef (enc := enc) (C := Tryz.checked) false (laidWorld os) #[.agg #[.slice none 0 0, .slice none 0 0, .slice none 0 0, .slice none 0 0, .slice none 0 0, .slice none 0 0], .slice none 0 0, .slice none 0 0] rfl (by kernel_rfl) (by kernel_rfl) (by kernel_rfl)
      (OpenSpec.preRow_of_cond 8 hx (by kernel_rfl) (fun k hk => by cases hk; kernel_rfl) (by kernel_rfl) (laid_met os _))) ?_
  intro W base args ds gs before hval hW _ hk _ hL _ _
  exact contract H enc W base args ds gs before hval hW (hk _ rfl) hL
theorem saidUpto : Rows.CheckUnionUptoSaid :=
  OpenClaim.holds_of_cond 9 Tryz.f9 rfl rfl rfl rfl rfl rfl rfl ⟨rfl, rfl, rfl, rfl, rfl⟩ rfl rfl rfl rfl rfl (by kernel_rfl) Tryz.func9 (by kernel_rfl)
    (of_decide_eq_true (by kernel_rfl)) (by unfold Func.isWrapper; first | (rw [if_pos (by decide +kernel)]; kernel_rfl) | (rw [if_neg (by decide +kernel)]; exact ⟨rfl, rfl⟩))
    (fun os started H enc _ F => by rw [OpenClaim.pre_eq_preRow]; exact liftedUpto os started H enc F)
theorem plain (f : FuncId) (fn : Func) (hf : Tryz.pinned.checked.prog.funcNamed "trickle/tricklelaw18.CheckUnion" = some f) (hfn : Tryz.pinned.checked.prog.funcs[f]? = some fn) :
    false = Tryz.pinned.checked.prog.looks [] ∧ ∀ (j : Nat) t, fn.params[j]? = some t → Tryz.pinned.checked.prog.wantsStandIn t = false := by
  obtain rfl : f = 9 := Option.some.inj ((show Tryz.prog.funcNamed "trickle/tricklelaw18.CheckUnion" = some 9 by kernel_rfl).symm.trans hf) |>.symm
  obtain rfl : fn = Tryz.f9 := (Option.some.inj (Tryz.func9.symm.trans hfn)).symm
  refine ⟨by kernel_rfl, fun j t ht => ?_⟩
  rw [Tryz.params9] at ht
  have ht2 : t = 28 ∨ t = 42 := by simpa using Array.mem_of_getElem? ht
  rcases ht2 with rfl | rfl
  · exact (show Tryz.prog.wantsStandIn 28 = false by kernel_rfl)
  · exact (show Tryz.prog.wantsStandIn 42 = false by kernel_rfl)
theorem cardUpto : Rows.CheckUnionUptoCardSaid :=
  Claim7.holds_tied_plain_at .later [] _ _ _ _ saidUpto (fun _ h => by cases h) (by kernel_rfl) (fun _ h => by cases h) checkUnionUpto_row_tie rfl ⟨rfl, rfl⟩ (by kernel_rfl) rfl plain (by kernel_rfl)
#print axioms cardUpto
end Go.Proofs.YtkfdnlfkomhmfaaGreatDoor.checkUnion
