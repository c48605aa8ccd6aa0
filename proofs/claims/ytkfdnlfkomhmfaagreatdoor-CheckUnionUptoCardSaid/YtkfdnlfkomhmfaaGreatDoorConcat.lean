/- slices.Concat of two slices of strings. -/
import Derived.Test.YtkfdnlfkomhmfaaGreatDoorGrow
import Derived.Test.YtkfdnlfkomhmfaaGreatDoorStmtW
namespace Go.Proofs.YtkfdnlfkomhmfaaGreatDoor
open Go.RowKit
set_option linter.unusedVariables false
set_option linter.unusedSimpArgs false

theorem panic2 (a b : Nat) (h : a ≤ 2097152) (h' : b ≤ 2097152) : wrap64 ((a : Int) + b) = (a : Int) + b := by unfold wrap64; omega
set_option maxRecDepth 100000 in
set_option maxHeartbeats 4000000 in
theorem Concat_any (N g : Nat) (s1 s2 : Value) (l1 l2 : List ByteArray) (w : World) (h1 : StrsAt N w s1 l1) (h2 : StrsAt N w s2 l2) (hN : N ≤ w.heap.size)
    (c0 : w.cell? ⟨g, 0, none⟩ = some s1) (c1 : w.cell? ⟨g, 1, none⟩ = some s2) :
    Calls Tryz.prog 61 #[.slice (some ⟨g, 0, none⟩) 2 2] w fun e w' => ∃ v, e = .returned v ∧ OwnAt strCells 1 9 w.heap.size w' v (l1 ++ l2) ∧ Below w.heap.size w w' := by
  obtain ⟨o1, q1, rfl, _, _, n1⟩ := SliceAt.slice h1
  obtain ⟨o2, q2, rfl, _, _, n2⟩ := SliceAt.slice h2
  go_enter Tryz.func61, Tryz.ntmps61
  go_wp2_with fail
  go_loopw [3, 11] (fun s i wr => wr = w ∧ ((i = .int .i64 0 ∧ s = .int .i64 0) ∨ (i = .int .i64 1 ∧ s = .int .i64 (l1.length : Nat)) ∨ (i = .int .i64 2 ∧ s = .int .i64 ((l1.length + l2.length : Nat) : Nat)))) (fun _ i _ => 2 - (intOf i).toNat)
  case atStart => exact ⟨rfl, .inl ⟨rfl, rfl⟩⟩
  case round =>
    obtain ⟨rfl, h⟩ := hrel
    rcases h with ⟨rfl, rfl⟩ | ⟨rfl, rfl⟩ | ⟨rfl, rfl⟩
    · go_wp2_with fail
      go_roundw
      case rel => exact ⟨trivial, .inr (.inl ⟨rfl, rfl⟩)⟩
      case measure => simp [intOf]
    · go_wp2_with fail
      go_roundw
      case rel => exact ⟨trivial, .inr (.inr ⟨rfl, by simp⟩)⟩
      case measure => simp [intOf]
    · go_wp2_with (go_at_call 107; refine (GrowS_any _ _ (by omega)).mono ?_; rintro e w1 ⟨v0, rfl, hO0, hB0⟩)
      have hB0s := hB0.size
      have k0 := cell_later c0 hB0
      have k1 := cell_later c1 hB0
      go_loopw [6, 27] (fun v i wz => Below wr.heap.size wr wz ∧ ((i = .int .i64 0 ∧ OwnAt strCells 1 9 wr.heap.size wz v ([] : List ByteArray)) ∨ (i = .int .i64 1 ∧ OwnAt strCells 1 9 wr.heap.size wz v l1) ∨ (i = .int .i64 2 ∧ OwnAt strCells 1 9 wr.heap.size wz v (l1 ++ l2)))) (fun _ i _ => 2 - (intOf i).toNat)
      case atStart => exact ⟨hB0, .inl ⟨rfl, hO0⟩⟩
      clear k0 k1 hB0 hB0s hO0
      case round =>
        obtain ⟨hB, h⟩ := hrel
        rename World => wr'
        have hBs := hB.size
        have k0 := cell_later c0 hB
        have k1 := cell_later c1 hB
        have hx1 : StrsAt N wr' (.slice o1 l1.length q1) l1 := SliceAt.lift h1 (hB.mono hN)
        have hx2 : StrsAt N wr' (.slice o2 l2.length q2) l2 := SliceAt.lift h2 (hB.mono hN)
        rcases h with ⟨rfl, hO⟩ | ⟨rfl, hO⟩ | ⟨rfl, hO⟩
        · go_wp2_with (refine appendL rfl _ _ 24 rfl 9 Tryz.underlying24 infoStr rfl (by decide) (by decide) str_len str_one hO rfl rfl hx1 (by simp; omega) hBs ?_; intro v1 w1' hO1 hg1 _)
          go_roundw
          case rel =>
            have hR : Below wr.heap.size wr w1' := hB.trans (OwnAt.below hO hg1 hBs)
            have hO1' : OwnAt strCells 1 9 wr.heap.size w1' v1 l1 := hO1
            first | exact ⟨hR, .inr (.inl ⟨rfl, hO1'⟩)⟩ | ((repeat apply Exists.intro); exact ⟨⟨hR, .inr (.inl ⟨rfl, hO1'⟩)⟩, rfl⟩)
          case measure => simp [intOf]
        · go_wp2_with (refine appendL rfl _ _ 24 rfl 9 Tryz.underlying24 infoStr rfl (by decide) (by decide) str_len str_one hO rfl rfl hx2 (by omega) hBs ?_; intro v1 w1' hO1 hg1 _)
          go_roundw
          case rel =>
            have hR : Below wr.heap.size wr w1' := hB.trans (OwnAt.below hO hg1 hBs)
            first | exact ⟨hR, .inr (.inr ⟨rfl, hO1⟩)⟩ | ((repeat apply Exists.intro); exact ⟨⟨hR, .inr (.inr ⟨rfl, hO1⟩)⟩, rfl⟩)
          case measure => simp [intOf]
        · go_wp2_with fail
          go_ret
          exact ⟨_, rfl, hO, hB⟩
end Go.Proofs.YtkfdnlfkomhmfaaGreatDoor
