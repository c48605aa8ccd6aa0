/- The declarations of a program, in order: the reference's Names and the program's declarations. -/
import Derived.Test.YtkfdnlfkomhmfaaGreatDoorOwn
import Derived.Test.YtkfdnlfkomhmfaaGreatDoorSize
namespace Go.Proofs.YtkfdnlfkomhmfaaGreatDoor
open Go.RowKit
set_option linter.unusedVariables false
set_option linter.unusedSimpArgs false
set_option maxRecDepth 100000

def gkind (len : Int) : Int := if len = 0 then 2 else 3
def nmC (i : Nat) (x : Const) : Decl := ⟨x.name, 1, i, x.pos⟩
def nmG (i : Nat) (x : Glob) : Decl := ⟨x.name, gkind x.len, i, x.pos⟩
def nmS (i : Nat) (x : ByteArray) : Decl := ⟨x, 4, i, 0⟩
def nmO (i : Nat) (x : ByteArray) : Decl := ⟨x, 5, i, 0⟩
def nmH (i : Nat) (x : Chan) : Decl := ⟨x.name, 6, i, x.pos⟩
def nmT (i : Nat) (x : Task) : Decl := ⟨x.name, 8, i, x.pos⟩
def namesOf (p : Prog) : List Decl := p.consts.mapIdx nmC ++ p.globals.mapIdx nmG ++ p.sensors.mapIdx nmS ++ p.outputs.mapIdx nmO ++ p.channels.mapIdx nmH ++ p.tasks.mapIdx nmT

theorem mapIdx_snoc {α β : Type} {f : Nat → α → β} {l : List α} {k : Nat} {x : α} (h : l[k]? = some x) (pre : List β) : pre ++ (l.mapIdx f).take (k + 1) = (pre ++ (l.mapIdx f).take k) ++ [f k x] := by
  rw [take_snoc (x := f k x) (by rw [List.getElem?_mapIdx, h]; rfl), List.append_assoc]
theorem mapIdx_full {α β : Type} (f : Nat → α → β) (l : List α) : (l.mapIdx f).take l.length = l.mapIdx f := List.take_of_length_le (by simp)
theorem infoDR : (Tryz.prog.info? 65).map (fun i => (i.zero, i.size, i.bytes)) = some (some (.agg #[.string ⟨#[]⟩, .int .i64 0, .int .i64 0, .int .i64 0]), 4, 40) := by kernel_rfl
theorem infoDC : (Tryz.prog.info? 86).map (fun i => (i.zero, i.size, i.bytes)) = some (some (.agg #[.string ⟨#[]⟩, .int .i64 0, .int .i64 0, .int .i64 0]), 4, 40) := by kernel_rfl

theorem OwnAt.base {α : Type} {f : α → List Value} {sz : Nat} {E : TypeId} {B B' : Nat} {w : World} {v : Value} {l : List α} (h : OwnAt f sz E B w v l) (hB : B' ≤ B) : OwnAt f sz E B' w v l := by
  obtain ⟨h1, h2⟩ := h
  refine ⟨h1, ?_⟩
  rcases h2 with h2 | ⟨g, cap, cur, rfl, hg, r⟩
  · exact .inl h2
  · exact .inr ⟨g, cap, cur, rfl, by omega, r⟩

set_option maxHeartbeats 4000000 in
theorem Names_any (p : Prog) (v0 v1 v2 v3 v4 v5 : Value) (N : Nat) (w : World) (hp : ProgAt N w v0 v1 v2 v3 v4 v5 p) (hN : N ≤ w.heap.size) :
    Calls Tryz.prog 30 #[.agg #[v0, v1, v2, v3, v4, v5]] w fun e w' => ∃ v, e = .returned v ∧ OwnAt Decl.cells 4 65 w.heap.size w' v (namesOf p) ∧ Below w.heap.size w w' := by
  obtain ⟨o0, q0, rfl, _, _, n0⟩ := SliceAt.slice hp.consts
  obtain ⟨o1, q1, rfl, _, _, n1⟩ := SliceAt.slice hp.globals
  obtain ⟨o2, q2, rfl, _, _, n2⟩ := SliceAt.slice hp.sensors
  obtain ⟨o3, q3, rfl, _, _, n3⟩ := SliceAt.slice hp.outputs
  obtain ⟨o4, q4, rfl, _, _, n4⟩ := SliceAt.slice hp.channels
  obtain ⟨o5, q5, rfl, _, _, n5⟩ := hp.tasks.slice
  go_enter Tryz.func30, Tryz.ntmps30
  go_wp2_with fail
  generalize hW : w.alloc _ = W
  have hBW : Below w.heap.size w W := by rw [← hW]; exact (Below.refl _ _).alloc (Nat.le_refl _) _
  have hb0 : w.heap.size < W.heap.size := by rw [← hW]; simp
  have f0 : W.cell? ⟨w.heap.size, 0, none⟩ = some (.slice o0 p.consts.length q0) := by rw [← hW]; simp [go_sem]
  have f1 : W.cell? ⟨w.heap.size, 1, none⟩ = some (.slice o1 p.globals.length q1) := by rw [← hW]; simp [go_sem]
  have f2 : W.cell? ⟨w.heap.size, 2, none⟩ = some (.slice o2 p.sensors.length q2) := by rw [← hW]; simp [go_sem]
  have f3 : W.cell? ⟨w.heap.size, 3, none⟩ = some (.slice o3 p.outputs.length q3) := by rw [← hW]; simp [go_sem]
  have f4 : W.cell? ⟨w.heap.size, 4, none⟩ = some (.slice o4 p.channels.length q4) := by rw [← hW]; simp [go_sem]
  have f5 : W.cell? ⟨w.heap.size, 5, none⟩ = some (.slice o5 p.tasks.length q5) := by rw [← hW]; simp [go_sem]
  clear hW
  have hp' := hp.lift (hBW.mono hN)
  clear hp
  go_loopw [3, 20] (fun v i wr => ∃ k : Nat, k ≤ p.consts.length ∧ i = .int .i64 k ∧ OwnAt Decl.cells 4 65 W.heap.size wr v (([] : List Decl) ++ (p.consts.mapIdx nmC).take k) ∧ Below W.heap.size W wr) (fun _ i _ => p.consts.length - (intOf i).toNat)
  case atStart => exact ⟨0, Nat.zero_le _, rfl, OwnAt.nil _ _ _ _ _, Below.refl _ _⟩
  case round =>
    obtain ⟨k, hk, rfl, hOwn, hB⟩ := hrel
    have hBs := hB.size
    have hlen : (([] : List Decl) ++ (p.consts.mapIdx nmC).take k).length ≤ 7000000 := by simp; omega
    by_cases hlt : k < p.consts.length
    · obtain ⟨x, b, off, hx, rfl, hb, c0, c1, c2⟩ := ConstsAt.at (SliceAt.lift hp'.consts (hB.mono (by omega))) hlt
      have hsn := Lib.hid (mapIdx_snoc (f := nmC) hx (([] : List Decl)))
      go_wp2_with (refine append1 rfl _ _ 62 rfl 65 Tryz.underlying62 infoDR rfl (by decide) (by decide) decl_len decl_one (OwnAt.later hOwn ((Below.refl _ _).alloc (Nat.le_refl _) _)) ⟨x.name, 1, k, x.pos⟩ rfl rfl rfl (by simp) (by omega) (by simp; omega) ?_; intro v' w1 hOwn1 hg1 _ _)
      go_roundw
      case rel => exact ⟨k + 1, by omega, by go_num, by rw [hsn.out]; exact hOwn1, hB.trans (((Below.refl _ _).alloc hBs _).trans (OwnAt.below (OwnAt.later hOwn ((Below.refl _ _).alloc (Nat.le_refl _) _)) hg1 (by simp; omega)))⟩
      case measure => simp [intOf]; omega
    · have : k = p.consts.length := by omega
      subst this
      rw [mapIdx_full] at hOwn
      have hOwn0 := hOwn
      clear hOwn hlen hlt
      have g1 := hB.cell (p := ⟨w.heap.size, 1, none⟩) hb0
      rw [f1] at g1
      go_wp2_with fail
      go_loopw [3, 38] (fun v i wr => ∃ k : Nat, k ≤ p.globals.length ∧ i = .int .i64 k ∧ OwnAt Decl.cells 4 65 W.heap.size wr v ((([] : List Decl) ++ p.consts.mapIdx nmC) ++ (p.globals.mapIdx nmG).take k) ∧ Below W.heap.size W wr) (fun _ i _ => p.globals.length - (intOf i).toNat)
      case atStart => exact ⟨0, Nat.zero_le _, rfl, by simpa using hOwn0, hB⟩
      case round =>
        obtain ⟨k, hk, rfl, hOwn, hB⟩ := hrel
        have hBs := hB.size
        have hlen : ((([] : List Decl) ++ p.consts.mapIdx nmC) ++ (p.globals.mapIdx nmG).take k).length ≤ 7000000 := by simp; omega
        by_cases hlt : k < p.globals.length
        · obtain ⟨x, b, off, hx, rfl, hb, c0, c1, c2, c3⟩ := GlobsAt.at (SliceAt.lift hp'.globals (hB.mono (by omega))) hlt
          have hsn := Lib.hid (mapIdx_snoc (f := nmG) hx ((([] : List Decl) ++ p.consts.mapIdx nmC)))
          by_cases hz : x.len = 0
          all_goals
            first
              | (have hzb : (x.len != 0) = false := by simp [hz]
                 have hgk := Lib.hid (show gkind x.len = 2 by simp [gkind, hz]))
              | (have hzb : (x.len != 0) = true := by simp [hz]
                 have hgk := Lib.hid (show gkind x.len = 3 by simp [gkind, hz]))
            clear hz
            go_wp2_with (refine append1 rfl _ _ 62 rfl 65 Tryz.underlying62 infoDR rfl (by decide) (by decide) decl_len decl_one (OwnAt.later hOwn ((Below.refl _ _).alloc (Nat.le_refl _) _)) ⟨x.name, _, k, x.pos⟩ rfl rfl rfl (by simp) (by omega) (by simp; omega) ?_; intro v' w1 hOwn1 hg1 _ _)
            go_roundw
            case rel => exact ⟨k + 1, by omega, by go_num, by rw [hsn.out, nmG, hgk.out]; exact hOwn1, hB.trans (((Below.refl _ _).alloc hBs _).trans (OwnAt.below (OwnAt.later hOwn ((Below.refl _ _).alloc (Nat.le_refl _) _)) hg1 (by simp; omega)))⟩
            case measure => simp [intOf]; omega
        · have : k = p.globals.length := by omega
          subst this
          rw [mapIdx_full] at hOwn
          have hOwn1 := hOwn
          clear hOwn hlen hlt
          have g2 := hB.cell (p := ⟨w.heap.size, 2, none⟩) hb0
          rw [f2] at g2
          go_wp2_with fail
          go_loopw [3, 60] (fun v i wr => ∃ k : Nat, k ≤ p.sensors.length ∧ i = .int .i64 k ∧ OwnAt Decl.cells 4 65 W.heap.size wr v (((([] : List Decl) ++ p.consts.mapIdx nmC) ++ p.globals.mapIdx nmG) ++ (p.sensors.mapIdx nmS).take k) ∧ Below W.heap.size W wr) (fun _ i _ => p.sensors.length - (intOf i).toNat)
          case atStart => exact ⟨0, Nat.zero_le _, rfl, by simpa using hOwn1, hB⟩
          case round =>
            obtain ⟨k, hk, rfl, hOwn, hB⟩ := hrel
            have hBs := hB.size
            have hlen : (((([] : List Decl) ++ p.consts.mapIdx nmC) ++ p.globals.mapIdx nmG) ++ (p.sensors.mapIdx nmS).take k).length ≤ 7000000 := by simp; omega
            by_cases hlt : k < p.sensors.length
            · obtain ⟨x, b, off, hx, rfl, hb, c0⟩ := StrsAt.at (SliceAt.lift hp'.sensors (hB.mono (by omega))) hlt
              have hsn := Lib.hid (mapIdx_snoc (f := nmS) hx (((([] : List Decl) ++ p.consts.mapIdx nmC) ++ p.globals.mapIdx nmG)))
              go_wp2_with (refine append1 rfl _ _ 62 rfl 65 Tryz.underlying62 infoDR rfl (by decide) (by decide) decl_len decl_one (OwnAt.later hOwn (Below.refl _ _)) ⟨x, 4, k, 0⟩ rfl rfl rfl rfl (by omega) (by omega) ?_; intro v' w1 hOwn1 hg1 _ _)
              go_roundw
              case rel => exact ⟨k + 1, by omega, by go_num, by rw [hsn.out]; exact hOwn1, hB.trans (OwnAt.below (OwnAt.later hOwn (Below.refl _ _)) hg1 (by omega))⟩
              case measure => simp [intOf]; omega
            · have : k = p.sensors.length := by omega
              subst this
              rw [mapIdx_full] at hOwn
              have hOwn2 := hOwn
              clear hOwn hlen hlt
              have g3 := hB.cell (p := ⟨w.heap.size, 3, none⟩) hb0
              rw [f3] at g3
              go_wp2_with fail
              go_loopw [3, 75] (fun v i wr => ∃ k : Nat, k ≤ p.outputs.length ∧ i = .int .i64 k ∧ OwnAt Decl.cells 4 65 W.heap.size wr v ((((([] : List Decl) ++ p.consts.mapIdx nmC) ++ p.globals.mapIdx nmG) ++ p.sensors.mapIdx nmS) ++ (p.outputs.mapIdx nmO).take k) ∧ Below W.heap.size W wr) (fun _ i _ => p.outputs.length - (intOf i).toNat)
              case atStart => exact ⟨0, Nat.zero_le _, rfl, by simpa using hOwn2, hB⟩
              case round =>
                obtain ⟨k, hk, rfl, hOwn, hB⟩ := hrel
                have hBs := hB.size
                have hlen : ((((([] : List Decl) ++ p.consts.mapIdx nmC) ++ p.globals.mapIdx nmG) ++ p.sensors.mapIdx nmS) ++ (p.outputs.mapIdx nmO).take k).length ≤ 7000000 := by simp; omega
                by_cases hlt : k < p.outputs.length
                · obtain ⟨x, b, off, hx, rfl, hb, c0⟩ := StrsAt.at (SliceAt.lift hp'.outputs (hB.mono (by omega))) hlt
                  have hsn := Lib.hid (mapIdx_snoc (f := nmO) hx ((((([] : List Decl) ++ p.consts.mapIdx nmC) ++ p.globals.mapIdx nmG) ++ p.sensors.mapIdx nmS)))
                  go_wp2_with (refine append1 rfl _ _ 62 rfl 65 Tryz.underlying62 infoDR rfl (by decide) (by decide) decl_len decl_one (OwnAt.later hOwn (Below.refl _ _)) ⟨x, 5, k, 0⟩ rfl rfl rfl rfl (by omega) (by omega) ?_; intro v' w1 hOwn1 hg1 _ _)
                  go_roundw
                  case rel => exact ⟨k + 1, by omega, by go_num, by rw [hsn.out]; exact hOwn1, hB.trans (OwnAt.below (OwnAt.later hOwn (Below.refl _ _)) hg1 (by omega))⟩
                  case measure => simp [intOf]; omega
                · have : k = p.outputs.length := by omega
                  subst this
                  rw [mapIdx_full] at hOwn
                  have hOwn3 := hOwn
                  clear hOwn hlen hlt
                  have g4 := hB.cell (p := ⟨w.heap.size, 4, none⟩) hb0
                  rw [f4] at g4
                  go_wp2_with fail
                  go_loopw [3, 90] (fun v i wr => ∃ k : Nat, k ≤ p.channels.length ∧ i = .int .i64 k ∧ OwnAt Decl.cells 4 65 W.heap.size wr v (((((([] : List Decl) ++ p.consts.mapIdx nmC) ++ p.globals.mapIdx nmG) ++ p.sensors.mapIdx nmS) ++ p.outputs.mapIdx nmO) ++ (p.channels.mapIdx nmH).take k) ∧ Below W.heap.size W wr) (fun _ i _ => p.channels.length - (intOf i).toNat)
                  case atStart => exact ⟨0, Nat.zero_le _, rfl, by simpa using hOwn3, hB⟩
                  case round =>
                    obtain ⟨k, hk, rfl, hOwn, hB⟩ := hrel
                    have hBs := hB.size
                    have hlen : (((((([] : List Decl) ++ p.consts.mapIdx nmC) ++ p.globals.mapIdx nmG) ++ p.sensors.mapIdx nmS) ++ p.outputs.mapIdx nmO) ++ (p.channels.mapIdx nmH).take k).length ≤ 7000000 := by simp; omega
                    by_cases hlt : k < p.channels.length
                    · obtain ⟨x, b, off, hx, rfl, hb, c0, c1, c2⟩ := ChansAt.at (SliceAt.lift hp'.channels (hB.mono (by omega))) hlt
                      have hsn := Lib.hid (mapIdx_snoc (f := nmH) hx (((((([] : List Decl) ++ p.consts.mapIdx nmC) ++ p.globals.mapIdx nmG) ++ p.sensors.mapIdx nmS) ++ p.outputs.mapIdx nmO)))
                      go_wp2_with (refine append1 rfl _ _ 62 rfl 65 Tryz.underlying62 infoDR rfl (by decide) (by decide) decl_len decl_one (OwnAt.later hOwn ((Below.refl _ _).alloc (Nat.le_refl _) _)) ⟨x.name, 6, k, x.pos⟩ rfl rfl rfl (by simp) (by omega) (by simp; omega) ?_; intro v' w1 hOwn1 hg1 _ _)
                      go_roundw
                      case rel => exact ⟨k + 1, by omega, by go_num, by rw [hsn.out]; exact hOwn1, hB.trans (((Below.refl _ _).alloc hBs _).trans (OwnAt.below (OwnAt.later hOwn ((Below.refl _ _).alloc (Nat.le_refl _) _)) hg1 (by simp; omega)))⟩
                      case measure => simp [intOf]; omega
                    · have : k = p.channels.length := by omega
                      subst this
                      rw [mapIdx_full] at hOwn
                      have hOwn4 := hOwn
                      clear hOwn hlen hlt
                      have g5 := hB.cell (p := ⟨w.heap.size, 5, none⟩) hb0
                      rw [f5] at g5
                      go_wp2_with fail
                      go_loopw [3, 108] (fun v i wr => ∃ k : Nat, k ≤ p.tasks.length ∧ i = .int .i64 k ∧ OwnAt Decl.cells 4 65 W.heap.size wr v ((((((([] : List Decl) ++ p.consts.mapIdx nmC) ++ p.globals.mapIdx nmG) ++ p.sensors.mapIdx nmS) ++ p.outputs.mapIdx nmO) ++ p.channels.mapIdx nmH) ++ (p.tasks.mapIdx nmT).take k) ∧ Below W.heap.size W wr) (fun _ i _ => p.tasks.length - (intOf i).toNat)
                      case atStart => exact ⟨0, Nat.zero_le _, rfl, by simpa using hOwn4, hB⟩
                      case round =>
                        obtain ⟨k, hk, rfl, hOwn, hB⟩ := hrel
                        have hBs := hB.size
                        have hlen : ((((((([] : List Decl) ++ p.consts.mapIdx nmC) ++ p.globals.mapIdx nmG) ++ p.sensors.mapIdx nmS) ++ p.outputs.mapIdx nmO) ++ p.channels.mapIdx nmH) ++ (p.tasks.mapIdx nmT).take k).length ≤ 7000000 := by simp; omega
                        by_cases hlt : k < p.tasks.length
                        · obtain ⟨x, b, off, vb, hx, rfl, hb, hwf, hsub, c0, c1, c2, c3, c4, c5, c6, c7⟩ := TasksAt.at (hp'.tasks.lift (hB.mono (by omega))) hlt
                          obtain ⟨ob, cb, rfl, _, _, _⟩ := hsub.slice
                          have hsn := Lib.hid (mapIdx_snoc (f := nmT) hx ((((((([] : List Decl) ++ p.consts.mapIdx nmC) ++ p.globals.mapIdx nmG) ++ p.sensors.mapIdx nmS) ++ p.outputs.mapIdx nmO) ++ p.channels.mapIdx nmH)))
                          go_wp2_with (refine append1 rfl _ _ 62 rfl 65 Tryz.underlying62 infoDR rfl (by decide) (by decide) decl_len decl_one (OwnAt.later hOwn ((Below.refl _ _).alloc (Nat.le_refl _) _)) ⟨x.name, 8, k, x.pos⟩ rfl rfl rfl (by simp) (by omega) (by simp; omega) ?_; intro v' w1 hOwn1 hg1 _ _)
                          go_roundw
                          case rel => exact ⟨k + 1, by omega, by go_num, by rw [hsn.out]; exact hOwn1, hB.trans (((Below.refl _ _).alloc hBs _).trans (OwnAt.below (OwnAt.later hOwn ((Below.refl _ _).alloc (Nat.le_refl _) _)) hg1 (by simp; omega)))⟩
                          case measure => simp [intOf]; omega
                        · have : k = p.tasks.length := by omega
                          subst this
                          rw [mapIdx_full] at hOwn
                          have hOwn5 := hOwn
                          clear hOwn hlen hlt
                          go_wp2_with fail
                          go_ret
                          have hfin := hOwn5
                          rw [List.nil_append] at hfin
                          exact ⟨_, rfl, OwnAt.base hfin (by omega), hBW.trans (hB.mono (by omega))⟩

set_option maxHeartbeats 4000000 in
theorem declarations_any (p : Prog) (v0 v1 v2 v3 v4 v5 : Value) (N : Nat) (w : World) (hp : ProgAt N w v0 v1 v2 v3 v4 v5 p) (hN : N ≤ w.heap.size) :
    Calls Tryz.prog 66 #[.agg #[v0, v1, v2, v3, v4, v5]] w fun e w' => ∃ v, e = .returned v ∧ OwnAt Decl.cells 4 86 w.heap.size w' v (namesOf p) ∧ Below w.heap.size w w' := by
  obtain ⟨o0, q0, rfl, _, _, n0⟩ := SliceAt.slice hp.consts
  obtain ⟨o1, q1, rfl, _, _, n1⟩ := SliceAt.slice hp.globals
  obtain ⟨o2, q2, rfl, _, _, n2⟩ := SliceAt.slice hp.sensors
  obtain ⟨o3, q3, rfl, _, _, n3⟩ := SliceAt.slice hp.outputs
  obtain ⟨o4, q4, rfl, _, _, n4⟩ := SliceAt.slice hp.channels
  obtain ⟨o5, q5, rfl, _, _, n5⟩ := hp.tasks.slice
  go_enter Tryz.func66, Tryz.ntmps66
  go_wp2_with fail
  generalize hW : w.alloc _ = W
  have hBW : Below w.heap.size w W := by rw [← hW]; exact (Below.refl _ _).alloc (Nat.le_refl _) _
  have hb0 : w.heap.size < W.heap.size := by rw [← hW]; simp
  have f0 : W.cell? ⟨w.heap.size, 0, none⟩ = some (.slice o0 p.consts.length q0) := by rw [← hW]; simp [go_sem]
  have f1 : W.cell? ⟨w.heap.size, 1, none⟩ = some (.slice o1 p.globals.length q1) := by rw [← hW]; simp [go_sem]
  have f2 : W.cell? ⟨w.heap.size, 2, none⟩ = some (.slice o2 p.sensors.length q2) := by rw [← hW]; simp [go_sem]
  have f3 : W.cell? ⟨w.heap.size, 3, none⟩ = some (.slice o3 p.outputs.length q3) := by rw [← hW]; simp [go_sem]
  have f4 : W.cell? ⟨w.heap.size, 4, none⟩ = some (.slice o4 p.channels.length q4) := by rw [← hW]; simp [go_sem]
  have f5 : W.cell? ⟨w.heap.size, 5, none⟩ = some (.slice o5 p.tasks.length q5) := by rw [← hW]; simp [go_sem]
  clear hW
  have hp' := hp.lift (hBW.mono hN)
  clear hp
  go_loopw [3, 20] (fun v i wr => ∃ k : Nat, k ≤ p.consts.length ∧ i = .int .i64 k ∧ OwnAt Decl.cells 4 86 W.heap.size wr v (([] : List Decl) ++ (p.consts.mapIdx nmC).take k) ∧ Below W.heap.size W wr) (fun _ i _ => p.consts.length - (intOf i).toNat)
  case atStart => exact ⟨0, Nat.zero_le _, rfl, OwnAt.nil _ _ _ _ _, Below.refl _ _⟩
  case round =>
    obtain ⟨k, hk, rfl, hOwn, hB⟩ := hrel
    have hBs := hB.size
    have hlen : (([] : List Decl) ++ (p.consts.mapIdx nmC).take k).length ≤ 7000000 := by simp; omega
    by_cases hlt : k < p.consts.length
    · obtain ⟨x, b, off, hx, rfl, hb, c0, c1, c2⟩ := ConstsAt.at (SliceAt.lift hp'.consts (hB.mono (by omega))) hlt
      have hsn := Lib.hid (mapIdx_snoc (f := nmC) hx (([] : List Decl)))
      go_wp2_with (refine append1 rfl _ _ 117 rfl 86 Tryz.underlying117 infoDC rfl (by decide) (by decide) decl_len decl_one (OwnAt.later hOwn ((Below.refl _ _).alloc (Nat.le_refl _) _)) ⟨x.name, 1, k, x.pos⟩ rfl rfl rfl (by simp) (by omega) (by simp; omega) ?_; intro v' w1 hOwn1 hg1 _ _)
      go_roundw
      case rel => exact ⟨k + 1, by omega, by go_num, by rw [hsn.out]; exact hOwn1, hB.trans (((Below.refl _ _).alloc hBs _).trans (OwnAt.below (OwnAt.later hOwn ((Below.refl _ _).alloc (Nat.le_refl _) _)) hg1 (by simp; omega)))⟩
      case measure => simp [intOf]; omega
    · have : k = p.consts.length := by omega
      subst this
      rw [mapIdx_full] at hOwn
      have hOwn0 := hOwn
      clear hOwn hlen hlt
      have g1 := hB.cell (p := ⟨w.heap.size, 1, none⟩) hb0
      rw [f1] at g1
      go_wp2_with fail
      go_loopw [3, 38] (fun v i wr => ∃ k : Nat, k ≤ p.globals.length ∧ i = .int .i64 k ∧ OwnAt Decl.cells 4 86 W.heap.size wr v ((([] : List Decl) ++ p.consts.mapIdx nmC) ++ (p.globals.mapIdx nmG).take k) ∧ Below W.heap.size W wr) (fun _ i _ => p.globals.length - (intOf i).toNat)
      case atStart => exact ⟨0, Nat.zero_le _, rfl, by simpa using hOwn0, hB⟩
      case round =>
        obtain ⟨k, hk, rfl, hOwn, hB⟩ := hrel
        have hBs := hB.size
        have hlen : ((([] : List Decl) ++ p.consts.mapIdx nmC) ++ (p.globals.mapIdx nmG).take k).length ≤ 7000000 := by simp; omega
        by_cases hlt : k < p.globals.length
        · obtain ⟨x, b, off, hx, rfl, hb, c0, c1, c2, c3⟩ := GlobsAt.at (SliceAt.lift hp'.globals (hB.mono (by omega))) hlt
          have hsn := Lib.hid (mapIdx_snoc (f := nmG) hx ((([] : List Decl) ++ p.consts.mapIdx nmC)))
          by_cases hz : x.len = 0
          all_goals
            first
              | (have hzb : (x.len != 0) = false := by simp [hz]
                 have hgk := Lib.hid (show gkind x.len = 2 by simp [gkind, hz]))
              | (have hzb : (x.len != 0) = true := by simp [hz]
                 have hgk := Lib.hid (show gkind x.len = 3 by simp [gkind, hz]))
            clear hz
            go_wp2_with (refine append1 rfl _ _ 117 rfl 86 Tryz.underlying117 infoDC rfl (by decide) (by decide) decl_len decl_one (OwnAt.later hOwn ((Below.refl _ _).alloc (Nat.le_refl _) _)) ⟨x.name, _, k, x.pos⟩ rfl rfl rfl (by simp) (by omega) (by simp; omega) ?_; intro v' w1 hOwn1 hg1 _ _)
            go_roundw
            case rel => exact ⟨k + 1, by omega, by go_num, by rw [hsn.out, nmG, hgk.out]; exact hOwn1, hB.trans (((Below.refl _ _).alloc hBs _).trans (OwnAt.below (OwnAt.later hOwn ((Below.refl _ _).alloc (Nat.le_refl _) _)) hg1 (by simp; omega)))⟩
            case measure => simp [intOf]; omega
        · have : k = p.globals.length := by omega
          subst this
          rw [mapIdx_full] at hOwn
          have hOwn1 := hOwn
          clear hOwn hlen hlt
          have g2 := hB.cell (p := ⟨w.heap.size, 2, none⟩) hb0
          rw [f2] at g2
          go_wp2_with fail
          go_loopw [3, 60] (fun v i wr => ∃ k : Nat, k ≤ p.sensors.length ∧ i = .int .i64 k ∧ OwnAt Decl.cells 4 86 W.heap.size wr v (((([] : List Decl) ++ p.consts.mapIdx nmC) ++ p.globals.mapIdx nmG) ++ (p.sensors.mapIdx nmS).take k) ∧ Below W.heap.size W wr) (fun _ i _ => p.sensors.length - (intOf i).toNat)
          case atStart => exact ⟨0, Nat.zero_le _, rfl, by simpa using hOwn1, hB⟩
          case round =>
            obtain ⟨k, hk, rfl, hOwn, hB⟩ := hrel
            have hBs := hB.size
            have hlen : (((([] : List Decl) ++ p.consts.mapIdx nmC) ++ p.globals.mapIdx nmG) ++ (p.sensors.mapIdx nmS).take k).length ≤ 7000000 := by simp; omega
            by_cases hlt : k < p.sensors.length
            · obtain ⟨x, b, off, hx, rfl, hb, c0⟩ := StrsAt.at (SliceAt.lift hp'.sensors (hB.mono (by omega))) hlt
              have hsn := Lib.hid (mapIdx_snoc (f := nmS) hx (((([] : List Decl) ++ p.consts.mapIdx nmC) ++ p.globals.mapIdx nmG)))
              go_wp2_with (refine append1 rfl _ _ 117 rfl 86 Tryz.underlying117 infoDC rfl (by decide) (by decide) decl_len decl_one (OwnAt.later hOwn (Below.refl _ _)) ⟨x, 4, k, 0⟩ rfl rfl rfl rfl (by omega) (by omega) ?_; intro v' w1 hOwn1 hg1 _ _)
              go_roundw
              case rel => exact ⟨k + 1, by omega, by go_num, by rw [hsn.out]; exact hOwn1, hB.trans (OwnAt.below (OwnAt.later hOwn (Below.refl _ _)) hg1 (by omega))⟩
              case measure => simp [intOf]; omega
            · have : k = p.sensors.length := by omega
              subst this
              rw [mapIdx_full] at hOwn
              have hOwn2 := hOwn
              clear hOwn hlen hlt
              have g3 := hB.cell (p := ⟨w.heap.size, 3, none⟩) hb0
              rw [f3] at g3
              go_wp2_with fail
              go_loopw [3, 75] (fun v i wr => ∃ k : Nat, k ≤ p.outputs.length ∧ i = .int .i64 k ∧ OwnAt Decl.cells 4 86 W.heap.size wr v ((((([] : List Decl) ++ p.consts.mapIdx nmC) ++ p.globals.mapIdx nmG) ++ p.sensors.mapIdx nmS) ++ (p.outputs.mapIdx nmO).take k) ∧ Below W.heap.size W wr) (fun _ i _ => p.outputs.length - (intOf i).toNat)
              case atStart => exact ⟨0, Nat.zero_le _, rfl, by simpa using hOwn2, hB⟩
              case round =>
                obtain ⟨k, hk, rfl, hOwn, hB⟩ := hrel
                have hBs := hB.size
                have hlen : ((((([] : List Decl) ++ p.consts.mapIdx nmC) ++ p.globals.mapIdx nmG) ++ p.sensors.mapIdx nmS) ++ (p.outputs.mapIdx nmO).take k).length ≤ 7000000 := by simp; omega
                by_cases hlt : k < p.outputs.length
                · obtain ⟨x, b, off, hx, rfl, hb, c0⟩ := StrsAt.at (SliceAt.lift hp'.outputs (hB.mono (by omega))) hlt
                  have hsn := Lib.hid (mapIdx_snoc (f := nmO) hx ((((([] : List Decl) ++ p.consts.mapIdx nmC) ++ p.globals.mapIdx nmG) ++ p.sensors.mapIdx nmS)))
                  go_wp2_with (refine append1 rfl _ _ 117 rfl 86 Tryz.underlying117 infoDC rfl (by decide) (by decide) decl_len decl_one (OwnAt.later hOwn (Below.refl _ _)) ⟨x, 5, k, 0⟩ rfl rfl rfl rfl (by omega) (by omega) ?_; intro v' w1 hOwn1 hg1 _ _)
                  go_roundw
                  case rel => exact ⟨k + 1, by omega, by go_num, by rw [hsn.out]; exact hOwn1, hB.trans (OwnAt.below (OwnAt.later hOwn (Below.refl _ _)) hg1 (by omega))⟩
                  case measure => simp [intOf]; omega
                · have : k = p.outputs.length := by omega
                  subst this
                  rw [mapIdx_full] at hOwn
                  have hOwn3 := hOwn
                  clear hOwn hlen hlt
                  have g4 := hB.cell (p := ⟨w.heap.size, 4, none⟩) hb0
                  rw [f4] at g4
                  go_wp2_with fail
                  go_loopw [3, 90] (fun v i wr => ∃ k : Nat, k ≤ p.channels.length ∧ i = .int .i64 k ∧ OwnAt Decl.cells 4 86 W.heap.size wr v (((((([] : List Decl) ++ p.consts.mapIdx nmC) ++ p.globals.mapIdx nmG) ++ p.sensors.mapIdx nmS) ++ p.outputs.mapIdx nmO) ++ (p.channels.mapIdx nmH).take k) ∧ Below W.heap.size W wr) (fun _ i _ => p.channels.length - (intOf i).toNat)
                  case atStart => exact ⟨0, Nat.zero_le _, rfl, by simpa using hOwn3, hB⟩
                  case round =>
                    obtain ⟨k, hk, rfl, hOwn, hB⟩ := hrel
                    have hBs := hB.size
                    have hlen : (((((([] : List Decl) ++ p.consts.mapIdx nmC) ++ p.globals.mapIdx nmG) ++ p.sensors.mapIdx nmS) ++ p.outputs.mapIdx nmO) ++ (p.channels.mapIdx nmH).take k).length ≤ 7000000 := by simp; omega
                    by_cases hlt : k < p.channels.length
                    · obtain ⟨x, b, off, hx, rfl, hb, c0, c1, c2⟩ := ChansAt.at (SliceAt.lift hp'.channels (hB.mono (by omega))) hlt
                      have hsn := Lib.hid (mapIdx_snoc (f := nmH) hx (((((([] : List Decl) ++ p.consts.mapIdx nmC) ++ p.globals.mapIdx nmG) ++ p.sensors.mapIdx nmS) ++ p.outputs.mapIdx nmO)))
                      go_wp2_with (refine append1 rfl _ _ 117 rfl 86 Tryz.underlying117 infoDC rfl (by decide) (by decide) decl_len decl_one (OwnAt.later hOwn ((Below.refl _ _).alloc (Nat.le_refl _) _)) ⟨x.name, 6, k, x.pos⟩ rfl rfl rfl (by simp) (by omega) (by simp; omega) ?_; intro v' w1 hOwn1 hg1 _ _)
                      go_roundw
                      case rel => exact ⟨k + 1, by omega, by go_num, by rw [hsn.out]; exact hOwn1, hB.trans (((Below.refl _ _).alloc hBs _).trans (OwnAt.below (OwnAt.later hOwn ((Below.refl _ _).alloc (Nat.le_refl _) _)) hg1 (by simp; omega)))⟩
                      case measure => simp [intOf]; omega
                    · have : k = p.channels.length := by omega
                      subst this
                      rw [mapIdx_full] at hOwn
                      have hOwn4 := hOwn
                      clear hOwn hlen hlt
                      have g5 := hB.cell (p := ⟨w.heap.size, 5, none⟩) hb0
                      rw [f5] at g5
                      go_wp2_with fail
                      go_loopw [3, 108] (fun v i wr => ∃ k : Nat, k ≤ p.tasks.length ∧ i = .int .i64 k ∧ OwnAt Decl.cells 4 86 W.heap.size wr v ((((((([] : List Decl) ++ p.consts.mapIdx nmC) ++ p.globals.mapIdx nmG) ++ p.sensors.mapIdx nmS) ++ p.outputs.mapIdx nmO) ++ p.channels.mapIdx nmH) ++ (p.tasks.mapIdx nmT).take k) ∧ Below W.heap.size W wr) (fun _ i _ => p.tasks.length - (intOf i).toNat)
                      case atStart => exact ⟨0, Nat.zero_le _, rfl, by simpa using hOwn4, hB⟩
                      case round =>
                        obtain ⟨k, hk, rfl, hOwn, hB⟩ := hrel
                        have hBs := hB.size
                        have hlen : ((((((([] : List Decl) ++ p.consts.mapIdx nmC) ++ p.globals.mapIdx nmG) ++ p.sensors.mapIdx nmS) ++ p.outputs.mapIdx nmO) ++ p.channels.mapIdx nmH) ++ (p.tasks.mapIdx nmT).take k).length ≤ 7000000 := by simp; omega
                        by_cases hlt : k < p.tasks.length
                        · obtain ⟨x, b, off, vb, hx, rfl, hb, hwf, hsub, c0, c1, c2, c3, c4, c5, c6, c7⟩ := TasksAt.at (hp'.tasks.lift (hB.mono (by omega))) hlt
                          obtain ⟨ob, cb, rfl, _, _, _⟩ := hsub.slice
                          have hsn := Lib.hid (mapIdx_snoc (f := nmT) hx ((((((([] : List Decl) ++ p.consts.mapIdx nmC) ++ p.globals.mapIdx nmG) ++ p.sensors.mapIdx nmS) ++ p.outputs.mapIdx nmO) ++ p.channels.mapIdx nmH)))
                          go_wp2_with (refine append1 rfl _ _ 117 rfl 86 Tryz.underlying117 infoDC rfl (by decide) (by decide) decl_len decl_one (OwnAt.later hOwn ((Below.refl _ _).alloc (Nat.le_refl _) _)) ⟨x.name, 8, k, x.pos⟩ rfl rfl rfl (by simp) (by omega) (by simp; omega) ?_; intro v' w1 hOwn1 hg1 _ _)
                          go_roundw
                          case rel => exact ⟨k + 1, by omega, by go_num, by rw [hsn.out]; exact hOwn1, hB.trans (((Below.refl _ _).alloc hBs _).trans (OwnAt.below (OwnAt.later hOwn ((Below.refl _ _).alloc (Nat.le_refl _) _)) hg1 (by simp; omega)))⟩
                          case measure => simp [intOf]; omega
                        · have : k = p.tasks.length := by omega
                          subst this
                          rw [mapIdx_full] at hOwn
                          have hOwn5 := hOwn
                          clear hOwn hlen hlt
                          go_wp2_with fail
                          go_ret
                          have hfin := hOwn5
                          rw [List.nil_append] at hfin
                          exact ⟨_, rfl, OwnAt.base hfin (by omega), hBW.trans (hB.mono (by omega))⟩
end Go.Proofs.YtkfdnlfkomhmfaaGreatDoor
