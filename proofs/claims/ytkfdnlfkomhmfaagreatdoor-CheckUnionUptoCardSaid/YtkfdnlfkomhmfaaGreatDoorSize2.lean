/- The sizes of statement lists. -/
import Derived.Test.YtkfdnlfkomhmfaaGreatDoorSize
import Derived.Test.YtkfdnlfkomhmfaaGreatDoorLater
namespace Go.Proofs.YtkfdnlfkomhmfaaGreatDoor
open Go.RowKit

mutual
def ssz : Stmt → Nat
  | ⟨_, name, _, args, body, els, _⟩ => 1 + name.size + eszs args + sszs body + sszs els
def sszs : List Stmt → Nat
  | [] => 0
  | x :: xs => ssz x + sszs xs
end
theorem ssz_eq (x : Stmt) : ssz x = 1 + x.name.size + eszs x.args + sszs x.body + sszs x.els := by cases x; simp [ssz]
theorem sszs_append (l m : List Stmt) : sszs (l ++ m) = sszs l + sszs m := by
  induction l with
  | nil => simp [sszs]
  | cons x l ih => simp [sszs, ih]; omega
theorem sszs_take {l : List Stmt} {k : Nat} {x : Stmt} (h : l[k]? = some x) : sszs (l.take (k + 1)) = sszs (l.take k) + ssz x := by
  rw [take_snoc h, sszs_append]; simp [sszs]
theorem sszs_take_le (l : List Stmt) (k : Nat) : sszs (l.take k) ≤ sszs l := by
  conv => rhs; rw [← List.take_append_drop k l]
  rw [sszs_append]; omega

set_option maxHeartbeats 800000 in
theorem Size_any (n : Nat) : ∀ (l : List Stmt) (v : Value) (N : Nat) (w : World), sszs l < n → StmtsAt N w v l → N ≤ w.heap.size → sszs l ≤ 1000000000 →
    Calls Tryz.prog 17 #[v] w fun e w' => e = .returned (.int .i64 (sszs l)) ∧ Below w.heap.size w w' := by
  induction n with
  | zero => intro l v N w hx; omega
  | succ n ih =>
    intro l v N w hx hA hN hz
    obtain ⟨oa, cap, rfl, hc1, hc2, hc3⟩ := hA.slice
    go_enter Tryz.func17, Tryz.ntmps17
    go_wp2_with fail
    go_loopw [3, 10] (fun v i wr => ∃ k : Nat, k ≤ l.length ∧ i = .int .i64 k ∧ v = .int .i64 ((sszs (l.take k) : Nat) : Int) ∧ Below w.heap.size w wr) (fun _ i _ => l.length - (intOf i).toNat)
    case atStart => exact ⟨0, Nat.zero_le _, rfl, by simp [sszs], Below.refl _ _⟩
    case round =>
      obtain ⟨k, hk, rfl, rfl, hB⟩ := hrel
      have hle := sszs_take_le l k
      have hBs := hB.size
      by_cases hlt : k < l.length
      · obtain ⟨y, b, off, va, vb, ve, hy, rfl, hb, hwf, ha, hbo, hel, c0, c1, c2, c3, c4, c5, c6⟩ := (hA.lift (hB.mono hN)).at hlt
        obtain ⟨oy, cy, rfl, _, _, _⟩ := ha.slice
        obtain ⟨ob, cb, rfl, _, _, _⟩ := hbo.slice
        obtain ⟨oe, ce, rfl, _, _, _⟩ := hel.slice
        have ht := sszs_take hy
        have hle2 := sszs_take_le l (k + 1)
        have hsum : sszs (l.take k) + ssz y ≤ sszs l := by omega
        have hey := ssz_eq y
        have hsum2 : sszs (l.take k) + (1 + y.name.size + eszs y.args + sszs y.body + sszs y.els) ≤ sszs l := by omega
        have H := Lib.hid ht
        have H2 := Lib.hid hey
        clear ht hey
        have hnm := hwf.2.1
        unfold Str at hnm
        go_wp2_with fail
        obtain ⟨W, hW⟩ : ∃ W, W = wr.alloc (.cells #[.int .i64 y.kind, .string y.name, .int .i64 y.n, .slice oy y.args.length cy, .slice ob y.body.length cb, .slice oe y.els.length ce, .int .i64 y.pos] 44) := ⟨_, rfl⟩
        have hBW : Below wr.heap.size wr W := by rw [hW]; exact (Below.refl _ _).alloc (Nat.le_refl _) _
        have d1 : W.cell? ⟨wr.heap.size, 1, none⟩ = some (.string y.name) := by rw [hW]; simp [go_sem]
        have d3 : W.cell? ⟨wr.heap.size, 3, none⟩ = some (.slice oy y.args.length cy) := by rw [hW]; simp [go_sem]
        have d4 : W.cell? ⟨wr.heap.size, 4, none⟩ = some (.slice ob y.body.length cb) := by rw [hW]; simp [go_sem]
        have d5 : W.cell? ⟨wr.heap.size, 5, none⟩ = some (.slice oe y.els.length ce) := by rw [hW]; simp [go_sem]
        rw [← hW]
        clear hW
        have hWs := hBW.size
        have e1 := fun p : Later W => Later.cell d1 p
        have e4 := fun p : Later W => Later.cell d4 p
        have e5 := fun p : Later W => Later.cell d5 p
        have hbo' := fun p : Later W => ((hbo.lift (hBW.mono (by omega))).lift (p.h.mono (by omega)))
        have hel' := fun p : Later W => ((hel.lift (hBW.mono (by omega))).lift (p.h.mono (by omega)))
        refine wp_region_later mixed (by kernel_rfl) ?_
        repeat (go_big_quiet_step ((first
          | exact Calls.later (ih _ _ N _ (by have := H2.out; omega) (hbo' _) (by have := hWs; have := (‹Later W›).h.size; omega) (by omega))
          | exact Calls.later (ih _ _ N _ (by have := H2.out; omega) (hel' _) (by have := hWs; have := (‹Later W›).h.size; omega) (by omega)))))
        refine wpQuiet_nil ?_
        rintro W' ⟨p, hp⟩
        have hB' : Below W.heap.size W W' := hp ▸ p.h
        clear hp p
        have d3' : W'.cell? ⟨wr.heap.size, 3, none⟩ = some (.slice oy y.args.length cy) := Later.cell d3 ⟨W', hB'⟩
        have ha' : ExprsAt N W' (.slice oy y.args.length cy) y.args := (ha.lift (hBW.mono (by omega))).lift (hB'.mono (by omega))
        have hB's := hB'.size
        clear d1 d3 d4 d5 e1 e4 e5 hbo' hel' c0 c1 c2 c3 c4 c5 c6
        go_wp2_with fail
        obtain ⟨T, hT⟩ : ∃ T : Nat, T = sszs (List.take k l) + (1 + y.name.size + sszs y.body + sszs y.els) := ⟨_, rfl⟩
        have hT1 : T + eszs y.args ≤ sszs l := by omega
        have hT2 : ((sszs (List.take k l) : Nat) : Int) + 1 + y.name.size + sszs y.body + sszs y.els = T := by rw [hT]; push_cast; omega
        have HT := Lib.hid hT
        clear hT
        rw [hT2]
        clear hT2
        go_loopw [3, 31] (fun v i w2 => ∃ j : Nat, j ≤ y.args.length ∧ i = .int .i64 j ∧ v = .int .i64 ((T + eszs (y.args.take j) : Nat) : Int) ∧ Below W'.heap.size W' w2) (fun _ i _ => y.args.length - (intOf i).toNat)
        case atStart => exact ⟨0, Nat.zero_le _, rfl, by simp [eszs], Below.refl _ _⟩
        case round =>
          obtain ⟨j, hj, rfl, rfl, hB2⟩ := hrel
          have hle3 := eszs_take_le y.args j
          have hB2s := hB2.size
          by_cases hlt2 : j < y.args.length
          · obtain ⟨z, b2, off2, vz, hz2, rfl, hb2, hwf2, hsub, c0, c1, c2, c3, c4, c5⟩ := (ha'.lift (hB2.mono (by omega))).at hlt2
            obtain ⟨oz, cz, rfl, _, _, _⟩ := hsub.slice
            have ht2 := eszs_take hz2
            have hle4 := eszs_take_le y.args (j + 1)
            have hsum3 : eszs (y.args.take j) + esz z ≤ eszs y.args := by omega
            have H3 := Lib.hid ht2
            clear ht2
            go_wp2_with (go_at_call 45; refine (exprSize_any (esz z) z _ N _ (Nat.le_refl _) (hsub.kept (fun b hb => Below.heap_alloc _ _ _ (by omega))) (by simp; omega) hwf2.2.1 (by omega)).mono ?_; rintro e w1 ⟨rfl, hB3⟩)
            go_roundw
            case rel => exact ⟨j + 1, by omega, by go_num, by rw [H3.out]; go_num, (hB2.alloc hB2s _).trans (hB3.mono (by simp; omega))⟩
            case measure => simp [intOf]; omega
          · have : j = y.args.length := by omega
            subst this
            go_wp2_with fail
            go_roundw
            case rel =>
              refine ⟨k + 1, by omega, by go_num, ?_, ?_⟩
              · rw [H.out, H2.out, List.take_length, HT.out]; go_num
              · exact hB.trans ((hBW.mono hBs).trans ((hB'.mono (by omega)).trans (hB2.mono (by omega))))
            case measure => simp [intOf]; omega
      · have : k = l.length := by omega
        subst this
        go_wp2_with fail
        go_ret
        exact ⟨ret_int (by simp), hB⟩
end Go.Proofs.YtkfdnlfkomhmfaaGreatDoor
