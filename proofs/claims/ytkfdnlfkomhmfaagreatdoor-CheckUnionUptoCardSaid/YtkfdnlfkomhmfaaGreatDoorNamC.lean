/- limits, where no number is beyond its limit. The checker's data. A region that draws its order: its first operations only read, what stands behind them comes in the text's order. The checker's names. -/
import Derived.Test.YtkfdnlfkomhmfaaGreatDoorExprC
import Derived.StillTailTactics
import Derived.Test.YtkfdnlfkomhmfaaGreatDoorLater
import Derived.Test.YtkfdnlfkomhmfaaGreatDoorLookR
import Derived.Maps.OwnOps
namespace Go.Proofs.YtkfdnlfkomhmfaaGreatDoor
open Go.RowKit
set_option linter.unusedVariables false
set_option linter.unusedSimpArgs false

theorem beyond_not (n m : Int) (v : Value) (what : ByteArray) (pc : Value) (w : World) (h : n ≤ m) :
    Calls Tryz.prog 67 #[.int .i64 n, .int .i64 m, v, .string what, pc] w fun e w' => e = .returned (.tuple #[]) ∧ w' = w := by
  go_enter Tryz.func67, Tryz.ntmps67
  go_wp2_with fail
  go_end0
  exact ⟨rfl, rfl⟩

set_option maxRecDepth 100000 in
set_option maxHeartbeats 4000000 in
theorem limits_in {K : CkK} {w : World} {b : Nat} {s : CkS} (h : Chk K w b s) (h1 : K.p.globals.length ≤ 32) (h2 : K.p.sensors.length ≤ 8) (h3 : K.p.outputs.length ≤ 8) (h4 : K.p.channels.length ≤ 8) (h5 : K.p.tasks.length ≤ 8) :
    Calls Tryz.prog 34 #[.pointer (some ⟨b, 0, none⟩)] w fun e w' => e = .returned (.tuple #[]) ∧ Chk K w' b s ∧ CMut b w w' := by
  obtain ⟨v0, v1, v2, v3, v4, v5, m, N, B, p⟩ := K
  obtain ⟨vl, vs, hk⟩ := h.ck
  have hp := h.prog
  simp only at hp h1 h2 h3 h4 h5 hk
  obtain ⟨o0, q0, rfl, _, _, n0⟩ := SliceAt.slice hp.consts
  obtain ⟨o1, q1, rfl, _, _, n1⟩ := SliceAt.slice hp.globals
  obtain ⟨o2, q2, rfl, _, _, n2⟩ := SliceAt.slice hp.sensors
  obtain ⟨o3, q3, rfl, _, _, n3⟩ := SliceAt.slice hp.outputs
  obtain ⟨o4, q4, rfl, _, _, n4⟩ := SliceAt.slice hp.channels
  obtain ⟨o5, q5, rfl, _, _, n5⟩ := hp.tasks.slice
  have eg : ∀ args w, (callFunc 67 args).run Tryz.prog w = .ok (.enter 67 args) w := enters_of Tryz.func67 (by kernel_rfl) rfl
  go_enter Tryz.func34, Tryz.ntmps34
  go_upto_region 1 with fail
  have hA := Blk.new w #[.pointer (some ⟨b, 0, none⟩)] 71
  have hWB := (Below.refl w.heap.size w).alloc (Nat.le_refl _) (.cells #[.pointer (some ⟨b, 0, none⟩)] 71)
  generalize w.alloc (.cells #[.pointer (some ⟨b, 0, none⟩)] 71) = W at hA hWB ⊢
  have hkW := hk.later hWB
  have a0 := hA.cell 0 rfl
  have c0 := hkW.cell (o := 0) rfl
  have c1 := hkW.cell (o := 1) rfl
  have c2 := hkW.cell (o := 2) rfl
  have c3 := hkW.cell (o := 3) rfl
  have c4 := hkW.cell (o := 4) rfl
  have c5 := hkW.cell (o := 5) rfl
  go_upto_region 2 with fail
  have hP := Blk.new W #[.slice o0 p.consts.length q0, .slice o1 p.globals.length q1, .slice o2 p.sensors.length q2, .slice o3 p.outputs.length q3, .slice o4 p.channels.length q4, .slice o5 p.tasks.length q5] 28
  have hWZ := (Below.refl W.heap.size W).alloc (Nat.le_refl _) (.cells #[.slice o0 p.consts.length q0, .slice o1 p.globals.length q1, .slice o2 p.sensors.length q2, .slice o3 p.outputs.length q3, .slice o4 p.channels.length q4, .slice o5 p.tasks.length q5] 28)
  generalize W.alloc (.cells #[.slice o0 p.consts.length q0, .slice o1 p.globals.length q1, .slice o2 p.sensors.length q2, .slice o3 p.outputs.length q3, .slice o4 p.channels.length q4, .slice o5 p.tasks.length q5] 28) = Z at hP hWZ ⊢
  clear c0 c1 c2 c3 c4 c5 a0
  have p1 := hP.cell 1 rfl
  have p2 := hP.cell 2 rfl
  have p3 := hP.cell 3 rfl
  have p4 := hP.cell 4 rfl
  have p5 := hP.cell 5 rfl
  go_wp2_with (go_at_call 67; refine (beyond_not _ _ _ _ _ _ (by omega)).mono ?_; rintro e w1 ⟨rfl, rfl⟩)
  go_end0
  have hB := hWB.trans (hWZ.mono hWB.size)
  exact ⟨rfl, h.later hB, h.mutOf hB⟩
end Go.Proofs.YtkfdnlfkomhmfaaGreatDoor

namespace Go.Proofs.YtkfdnlfkomhmfaaGreatDoor
open Go.RowKit
set_option linter.unusedVariables false
set_option linter.unusedSimpArgs false

theorem report_l {K : CkK} {w : World} {b : Nat} {s : CkS} (h : Chk K w b s) (bad : Bool) (pos : Int) (text : ByteArray) (hl : s.out.length ≤ 1000000) :
    Calls Tryz.prog 68 #[.pointer (some ⟨b, 0, none⟩), .bool bad, .int .i64 pos, .string text] w fun e w' => e = .returned (.tuple #[]) ∧ Chk K w' b (s.add (rep bad pos text)) ∧ CMut b w w' ∧ (s.add (rep bad pos text)).out.length ≤ s.out.length + 1 :=
  (report_any h bad pos text hl).mono fun e w' ⟨h1, h2, h3⟩ => ⟨h1, h2, h3, rep_add_len s bad pos text⟩

def gvalid (g : Glob) : Bool := decide (0 ≤ g.len ∧ g.len ≤ 64)
def gw (g : Glob) : Int := if 0 ≤ g.len ∧ g.len ≤ 64 then max g.len 1 else 0
def globR (n : Int) (g : Glob) : List Diag := rep (!gvalid g) g.pos tLen ++ (rep (g.len != 0 && g.init != 0) g.pos tInit ++ rep (decide (n ≤ 512 ∧ 512 < n + gw g)) g.pos tData)
def sumW : List Glob → Int
  | [] => 0
  | g :: l => gw g + sumW l
def dataG : Int → List Glob → List Diag
  | _, [] => []
  | n, g :: l => globR n g ++ dataG (n + gw g) l
def chanR (l : List Chan) : List Diag := l.flatMap fun h => rep (!decide (1 ≤ h.cap ∧ h.cap ≤ 16)) h.pos tCap
theorem sumW_snoc (l : List Glob) (g : Glob) : sumW (l ++ [g]) = sumW l + gw g := by
  induction l with
  | nil => simp [sumW]
  | cons x l ih => simp [sumW, ih]; omega
theorem dataG_snoc (l : List Glob) (g : Glob) : ∀ n, dataG n (l ++ [g]) = dataG n l ++ globR (n + sumW l) g := by
  induction l with
  | nil => intro n; simp [dataG, sumW]
  | cons x l ih => intro n; simp [dataG, sumW, ih, Int.add_assoc]
theorem chanR_snoc (l : List Chan) (h : Chan) : chanR (l ++ [h]) = chanR l ++ rep (!decide (1 ≤ h.cap ∧ h.cap ≤ 16)) h.pos tCap := by simp [chanR]
theorem gw_bd (g : Glob) : 0 ≤ gw g ∧ gw g ≤ 64 := by unfold gw; split <;> omega
theorem sumW_bd (l : List Glob) : 0 ≤ sumW l ∧ sumW l ≤ 64 * l.length := by
  induction l with
  | nil => simp [sumW]
  | cons x l ih => have := gw_bd x; simp only [sumW, List.length_cons]; omega
theorem globR_len (n : Int) (g : Glob) : (globR n g).length ≤ 3 := by
  unfold globR
  simp only [List.length_append]
  have h1 := rep_len (!gvalid g) g.pos tLen
  have h2 := rep_len (g.len != 0 && g.init != 0) g.pos tInit
  have h3 := rep_len (decide (n ≤ 512 ∧ 512 < n + gw g)) g.pos tData
  omega
theorem dataG_len (l : List Glob) : ∀ n, (dataG n l).length ≤ 3 * l.length := by
  induction l with
  | nil => intro n; simp [dataG]
  | cons x l ih => intro n; have := ih (n + gw x); have := globR_len n x; simp only [dataG, List.length_append, List.length_cons]; omega
theorem chanR_len (l : List Chan) : (chanR l).length ≤ l.length := by
  induction l with
  | nil => simp [chanR]
  | cons x l ih => have := rep_len (!decide (1 ≤ x.cap ∧ x.cap ≤ 16)) x.pos tCap; simp only [chanR, List.flatMap_cons, List.length_append, List.length_cons] at *; omega

set_option maxRecDepth 100000 in
set_option maxHeartbeats 8000000 in
theorem data_any {K : CkK} {w : World} {b : Nat} {s : CkS} (h : Chk K w b s) (hl : s.out.length + 3 * K.p.globals.length + K.p.channels.length ≤ 1000000) :
    Calls Tryz.prog 35 #[.pointer (some ⟨b, 0, none⟩)] w fun e w' => e = .returned (.tuple #[]) ∧ Chk K w' b (s.add (dataG 0 K.p.globals ++ chanR K.p.channels)) ∧ CMut b w w' := by
  obtain ⟨vl, vs, hk⟩ := h.ck
  have hp := h.prog
  obtain ⟨o1, q1, e1, _, _, n1⟩ := SliceAt.slice hp.globals
  obtain ⟨o4, q4, e4, _, _, n4⟩ := SliceAt.slice hp.channels
  have hgl := hp.globals
  rw [e1] at hgl
  have hch := hp.channels
  rw [e4] at hch
  have hwfg := Lib.hid hp.wfg
  have hwfh := Lib.hid hp.wfh
  have c1 := hk.cell (o := 1) rfl
  rw [e1] at c1
  clear hk
  go_enter Tryz.func35, Tryz.ntmps35
  go_wp2_with fail
  go_loopw [2, 3, 15] (fun vw vf i wr => ∃ k : Nat, k ≤ K.p.globals.length ∧ i = .int .i64 k ∧ vw = .int .i64 (sumW (K.p.globals.take k)) ∧ vf = .bool (decide (512 < sumW (K.p.globals.take k))) ∧ Chk K wr b (s.add (dataG 0 (K.p.globals.take k))) ∧ CMut b w wr) (fun _ _ i _ => K.p.globals.length - (intOf i).toNat)
  case atStart => exact ⟨0, Nat.zero_le _, rfl, rfl, rfl, h, Mut.refl _ _ _ _⟩
  case round =>
    obtain ⟨k, hkl, rfl, rfl, rfl, hC, hM⟩ := hrel
    rename World => wr
    have hdl := CkS.add_len s (dataG 0 (K.p.globals.take k))
    have hdg := dataG_len (K.p.globals.take k) 0
    rw [List.length_take, Nat.min_eq_left hkl] at hdg
    by_cases hlt : k < K.p.globals.length
    · obtain ⟨x, bg, off, hx, rfl, hb, c0, c1, c2, c3⟩ := GlobsAt.at (SliceAt.lift hgl (h.keep hM)) hlt
      have hsw := sumW_snoc (K.p.globals.take k) x
      have hds := dataG_snoc (K.p.globals.take k) x 0
      rw [← take_snoc hx] at hsw hds
      have hbd := sumW_bd (K.p.globals.take k)
      rw [List.length_take, Nat.min_eq_left hkl] at hbd
      have hxw := hwfg.out k hlt
      have hxd : K.p.globals.getD k default = x := by simp [List.getD, hx]
      rw [hxd] at hxw
      obtain ⟨_, hxl, _, _⟩ := hxw
      unfold I64 at hxl
      rw [Int.zero_add] at hds
      have HDS := Lib.hid hds
      generalize sumW (K.p.globals.take k) = wd at hsw hbd HDS ⊢
      have HSW := Lib.hid hsw
      clear hsw hds hx hxd
      generalize hst : s.add (dataG 0 (K.p.globals.take k)) = st at hC hdl ⊢
      have HST := Lib.hid hst
      clear hst
      have hl0 : st.out.length + 3 ≤ 1000000 := by omega
      go_upto_region 4 with fail
      have hZ := (Below.refl wr.heap.size wr).alloc (Nat.le_refl _) (.cells #[.string x.name, .int .i64 x.len, .int .i16 x.init, .int .i64 x.pos] 69)
      have hY := hC.loc #[.string x.name, .int .i64 x.len, .int .i16 x.init, .int .i64 x.pos] 69
      generalize wr.alloc (.cells #[.string x.name, .int .i64 x.len, .int .i16 x.init, .int .i64 x.pos] 69) = Z at hY hZ ⊢
      have hCZ := hC.later hZ
      have hMZ := hM.trans (hC.mutOf hZ)
      have y1 := hY.cell (o := 1) rfl
      have y2 := hY.cell (o := 2) rfl
      have y3 := hY.cell (o := 3) rfl
      clear c0 c1 c2 c3
      have cases3 : (gvalid x = false ∧ gw x = 0 ∧ (x.len != 0) = true) ∨ (gvalid x = true ∧ gw x = 1 ∧ (x.len != 0) = false ∧ x.len = 0) ∨ (gvalid x = true ∧ gw x = x.len ∧ (x.len != 0) = true ∧ 1 ≤ x.len ∧ x.len ≤ 64) := by
        unfold gvalid gw
        by_cases hv : 0 ≤ x.len ∧ x.len ≤ 64
        · rw [decide_eq_true hv, if_pos hv]
          by_cases hz : x.len = 0
          · exact .inr (.inl ⟨rfl, by omega, by simp [hz], hz⟩)
          · exact .inr (.inr ⟨rfl, by omega, by simp [hz], by omega, hv.2⟩)
        · rw [decide_eq_false hv, if_neg hv]
          exact .inl ⟨rfl, rfl, by simp; omega⟩
      have hin := fun w => within_any x.len 0 64 w
      rw [show decide (0 ≤ x.len ∧ x.len ≤ 64) = gvalid x from rfl] at hin
      have hR : globR wd x = rep (!gvalid x) x.pos tLen ++ (rep (x.len != 0 && x.init != 0) x.pos tInit ++ rep (decide (wd ≤ 512 ∧ 512 < wd + gw x)) x.pos tData) := rfl
      rcases cases3 with ⟨hv, hg, hz⟩ | ⟨hv, hg, hz, hz0⟩ | ⟨hv, hg, hz, hz1, hz2⟩
      · rw [hv, hz, hg, Int.add_zero] at hR
        rw [hv] at hin
        have hov : decide (wd ≤ 512 ∧ 512 < wd) = false := decide_eq_false (by omega)
        rw [hov] at hR
        by_cases hwd : 512 < wd
        · have hd : decide (512 < wd) = true := decide_eq_true hwd
          rw [hd]
          skip
          have HIN := Lib.hid hin
          have HR := Lib.hid hR
          have HG := Lib.hid hg
          clear hin hR hg hv
          go_wp2_with (first
            | (go_at_call 73; refine (HIN.out _).mono ?_; rintro e w9 ⟨rfl, rfl⟩)
            | (go_at_call 68; refine (report_l hCZ _ _ _ (by omega)).mono ?_; rintro e w1 ⟨rfl, hC1, hM1, hl1⟩; have hY1 := hY.mut hM1; have y1 := hY1.cell (o := 1) rfl; have y2 := hY1.cell (o := 2) rfl; have y3 := hY1.cell (o := 3) rfl)
            | (go_at_call 68; refine (report_l hC1 _ _ _ (by omega)).mono ?_; rintro e w2 ⟨rfl, hC2, hM2, hl2⟩; have hY2 := hY1.mut hM2; have y1 := hY2.cell (o := 1) rfl; have y2 := hY2.cell (o := 2) rfl; have y3 := hY2.cell (o := 3) rfl)
            | (go_at_call 68; refine (report_l hC2 _ _ _ (by omega)).mono ?_; rintro e w3 ⟨rfl, hC3, hM3, hl3⟩))
          have hfin : Chk K w2 b (s.add (dataG 0 (K.p.globals.take (k + 1)))) := hC2.mk2 (by rw [HDS.out, CkS.add_app, HST.out, HR.out]; simp only [CkS.add_app, Bool.not_false, Bool.true_and]; first | rfl | simp [rep, CkS.add_nil])
          have hmm : CMut b w w2 := (((hMZ.trans hM1).trans hM2))
          go_roundw
          case rel => first | exact ⟨k + 1, by omega, by go_num, by rw [HSW.out, HG.out]; go_num, by rw [HSW.out, HG.out]; rw [decide_eq_true (by omega)], hfin, hmm⟩ | ((repeat apply Exists.intro); exact ⟨⟨k + 1, by omega, by go_num, by rw [HSW.out, HG.out]; go_num, by rw [HSW.out, HG.out]; rw [decide_eq_true (by omega)], hfin, hmm⟩, rfl⟩)
          case measure => simp [intOf]; omega
        · have hd : decide (512 < wd) = false := decide_eq_false hwd
          rw [hd]
          skip
          have HIN := Lib.hid hin
          have HR := Lib.hid hR
          have HG := Lib.hid hg
          clear hin hR hg hv
          go_wp2_with (first
            | (go_at_call 73; refine (HIN.out _).mono ?_; rintro e w9 ⟨rfl, rfl⟩)
            | (go_at_call 68; refine (report_l hCZ _ _ _ (by omega)).mono ?_; rintro e w1 ⟨rfl, hC1, hM1, hl1⟩; have hY1 := hY.mut hM1; have y1 := hY1.cell (o := 1) rfl; have y2 := hY1.cell (o := 2) rfl; have y3 := hY1.cell (o := 3) rfl)
            | (go_at_call 68; refine (report_l hC1 _ _ _ (by omega)).mono ?_; rintro e w2 ⟨rfl, hC2, hM2, hl2⟩; have hY2 := hY1.mut hM2; have y1 := hY2.cell (o := 1) rfl; have y2 := hY2.cell (o := 2) rfl; have y3 := hY2.cell (o := 3) rfl)
            | (go_at_call 68; refine (report_l hC2 _ _ _ (by omega)).mono ?_; rintro e w3 ⟨rfl, hC3, hM3, hl3⟩))
          have hfin : Chk K w2 b (s.add (dataG 0 (K.p.globals.take (k + 1)))) := hC2.mk2 (by rw [HDS.out, CkS.add_app, HST.out, HR.out]; simp only [CkS.add_app, Bool.not_false, Bool.true_and]; first | rfl | simp [rep, CkS.add_nil])
          have hmm : CMut b w w2 := (((hMZ.trans hM1).trans hM2))
          go_roundw
          case rel => first | exact ⟨k + 1, by omega, by go_num, by rw [HSW.out, HG.out]; go_num, by rw [HSW.out, HG.out]; rw [decide_eq_false (by omega)], hfin, hmm⟩ | ((repeat apply Exists.intro); exact ⟨⟨k + 1, by omega, by go_num, by rw [HSW.out, HG.out]; go_num, by rw [HSW.out, HG.out]; rw [decide_eq_false (by omega)], hfin, hmm⟩, rfl⟩)
          case measure => simp [intOf]; omega
      · rw [hv, hz, hg] at hR
        rw [hv] at hin
        have hz0' : x.len < 1 := by omega
        clear hz0
        by_cases hwd : 512 < wd
        · have hd : decide (512 < wd) = true := decide_eq_true hwd
          rw [hd]
          rw [show decide (wd ≤ 512 ∧ 512 < wd + 1) = false from decide_eq_false (by omega)] at hR
          have HIN := Lib.hid hin
          have HR := Lib.hid hR
          have HG := Lib.hid hg
          clear hin hR hg hv
          go_wp2_with (first
            | (go_at_call 73; refine (HIN.out _).mono ?_; rintro e w9 ⟨rfl, rfl⟩)
            | (go_at_call 68; refine (report_l hCZ _ _ _ (by omega)).mono ?_; rintro e w1 ⟨rfl, hC1, hM1, hl1⟩; have hY1 := hY.mut hM1; have y1 := hY1.cell (o := 1) rfl; have y2 := hY1.cell (o := 2) rfl; have y3 := hY1.cell (o := 3) rfl)
            | (go_at_call 68; refine (report_l hC1 _ _ _ (by omega)).mono ?_; rintro e w2 ⟨rfl, hC2, hM2, hl2⟩; have hY2 := hY1.mut hM2; have y1 := hY2.cell (o := 1) rfl; have y2 := hY2.cell (o := 2) rfl; have y3 := hY2.cell (o := 3) rfl)
            | (go_at_call 68; refine (report_l hC2 _ _ _ (by omega)).mono ?_; rintro e w3 ⟨rfl, hC3, hM3, hl3⟩))
          have hfin : Chk K w2 b (s.add (dataG 0 (K.p.globals.take (k + 1)))) := hC2.mk2 (by rw [HDS.out, CkS.add_app, HST.out, HR.out]; simp only [CkS.add_app, Bool.not_false, Bool.true_and]; first | rfl | simp [rep, CkS.add_nil])
          have hmm : CMut b w w2 := (((hMZ.trans hM1).trans hM2))
          go_roundw
          case rel => first | exact ⟨k + 1, by omega, by go_num, by rw [HSW.out, HG.out]; go_num, by rw [HSW.out, HG.out]; rw [decide_eq_true (by omega)], hfin, hmm⟩ | ((repeat apply Exists.intro); exact ⟨⟨k + 1, by omega, by go_num, by rw [HSW.out, HG.out]; go_num, by rw [HSW.out, HG.out]; rw [decide_eq_true (by omega)], hfin, hmm⟩, rfl⟩)
          case measure => simp [intOf]; omega
        · have hd : decide (512 < wd) = false := decide_eq_false hwd
          rw [hd]
          by_cases hov : 512 < wd + 1
          · rw [show decide (wd ≤ 512 ∧ 512 < wd + 1) = true from decide_eq_true (by omega)] at hR
            have HIN := Lib.hid hin
            have HR := Lib.hid hR
            have HG := Lib.hid hg
            clear hin hR hg hv
            go_wp2_with (first
              | (go_at_call 73; refine (HIN.out _).mono ?_; rintro e w9 ⟨rfl, rfl⟩)
              | (go_at_call 68; refine (report_l hCZ _ _ _ (by omega)).mono ?_; rintro e w1 ⟨rfl, hC1, hM1, hl1⟩; have hY1 := hY.mut hM1; have y1 := hY1.cell (o := 1) rfl; have y2 := hY1.cell (o := 2) rfl; have y3 := hY1.cell (o := 3) rfl)
              | (go_at_call 68; refine (report_l hC1 _ _ _ (by omega)).mono ?_; rintro e w2 ⟨rfl, hC2, hM2, hl2⟩; have hY2 := hY1.mut hM2; have y1 := hY2.cell (o := 1) rfl; have y2 := hY2.cell (o := 2) rfl; have y3 := hY2.cell (o := 3) rfl)
              | (go_at_call 68; refine (report_l hC2 _ _ _ (by omega)).mono ?_; rintro e w3 ⟨rfl, hC3, hM3, hl3⟩))
            have hfin : Chk K w3 b (s.add (dataG 0 (K.p.globals.take (k + 1)))) := hC3.mk2 (by rw [HDS.out, CkS.add_app, HST.out, HR.out]; simp only [CkS.add_app, Bool.not_false, Bool.true_and]; first | rfl | simp [rep, CkS.add_nil])
            have hmm : CMut b w w3 := ((((hMZ.trans hM1).trans hM2)).trans hM3)
            go_roundw
            case rel => first | exact ⟨k + 1, by omega, by go_num, by rw [HSW.out, HG.out]; go_num, by rw [HSW.out, HG.out]; rw [decide_eq_true (by omega)], hfin, hmm⟩ | ((repeat apply Exists.intro); exact ⟨⟨k + 1, by omega, by go_num, by rw [HSW.out, HG.out]; go_num, by rw [HSW.out, HG.out]; rw [decide_eq_true (by omega)], hfin, hmm⟩, rfl⟩)
            case measure => simp [intOf]; omega
          · rw [show decide (wd ≤ 512 ∧ 512 < wd + 1) = false from decide_eq_false (by omega)] at hR
            have HIN := Lib.hid hin
            have HR := Lib.hid hR
            have HG := Lib.hid hg
            clear hin hR hg hv
            go_wp2_with (first
              | (go_at_call 73; refine (HIN.out _).mono ?_; rintro e w9 ⟨rfl, rfl⟩)
              | (go_at_call 68; refine (report_l hCZ _ _ _ (by omega)).mono ?_; rintro e w1 ⟨rfl, hC1, hM1, hl1⟩; have hY1 := hY.mut hM1; have y1 := hY1.cell (o := 1) rfl; have y2 := hY1.cell (o := 2) rfl; have y3 := hY1.cell (o := 3) rfl)
              | (go_at_call 68; refine (report_l hC1 _ _ _ (by omega)).mono ?_; rintro e w2 ⟨rfl, hC2, hM2, hl2⟩; have hY2 := hY1.mut hM2; have y1 := hY2.cell (o := 1) rfl; have y2 := hY2.cell (o := 2) rfl; have y3 := hY2.cell (o := 3) rfl)
              | (go_at_call 68; refine (report_l hC2 _ _ _ (by omega)).mono ?_; rintro e w3 ⟨rfl, hC3, hM3, hl3⟩))
            have hfin : Chk K w2 b (s.add (dataG 0 (K.p.globals.take (k + 1)))) := hC2.mk2 (by rw [HDS.out, CkS.add_app, HST.out, HR.out]; simp only [CkS.add_app, Bool.not_false, Bool.true_and]; first | rfl | simp [rep, CkS.add_nil])
            have hmm : CMut b w w2 := (((hMZ.trans hM1).trans hM2))
            go_roundw
            case rel => first | exact ⟨k + 1, by omega, by go_num, by rw [HSW.out, HG.out]; go_num, by rw [HSW.out, HG.out]; rw [decide_eq_false (by omega)], hfin, hmm⟩ | ((repeat apply Exists.intro); exact ⟨⟨k + 1, by omega, by go_num, by rw [HSW.out, HG.out]; go_num, by rw [HSW.out, HG.out]; rw [decide_eq_false (by omega)], hfin, hmm⟩, rfl⟩)
            case measure => simp [intOf]; omega
      · rw [hv, hz, hg] at hR
        rw [hv] at hin
        skip
        by_cases hwd : 512 < wd
        · have hd : decide (512 < wd) = true := decide_eq_true hwd
          rw [hd]
          rw [show decide (wd ≤ 512 ∧ 512 < wd + x.len) = false from decide_eq_false (by omega)] at hR
          have HIN := Lib.hid hin
          have HR := Lib.hid hR
          have HG := Lib.hid hg
          clear hin hR hg hv
          go_wp2_with (first
            | (go_at_call 73; refine (HIN.out _).mono ?_; rintro e w9 ⟨rfl, rfl⟩)
            | (go_at_call 68; refine (report_l hCZ _ _ _ (by omega)).mono ?_; rintro e w1 ⟨rfl, hC1, hM1, hl1⟩; have hY1 := hY.mut hM1; have y1 := hY1.cell (o := 1) rfl; have y2 := hY1.cell (o := 2) rfl; have y3 := hY1.cell (o := 3) rfl)
            | (go_at_call 68; refine (report_l hC1 _ _ _ (by omega)).mono ?_; rintro e w2 ⟨rfl, hC2, hM2, hl2⟩; have hY2 := hY1.mut hM2; have y1 := hY2.cell (o := 1) rfl; have y2 := hY2.cell (o := 2) rfl; have y3 := hY2.cell (o := 3) rfl)
            | (go_at_call 68; refine (report_l hC2 _ _ _ (by omega)).mono ?_; rintro e w3 ⟨rfl, hC3, hM3, hl3⟩))
          have hfin : Chk K w2 b (s.add (dataG 0 (K.p.globals.take (k + 1)))) := hC2.mk2 (by rw [HDS.out, CkS.add_app, HST.out, HR.out]; simp only [CkS.add_app, Bool.not_false, Bool.true_and]; first | rfl | simp [rep, CkS.add_nil])
          have hmm : CMut b w w2 := (((hMZ.trans hM1).trans hM2))
          go_roundw
          case rel => first | exact ⟨k + 1, by omega, by go_num, by rw [HSW.out, HG.out]; go_num, by rw [HSW.out, HG.out]; rw [decide_eq_true (by omega)], hfin, hmm⟩ | ((repeat apply Exists.intro); exact ⟨⟨k + 1, by omega, by go_num, by rw [HSW.out, HG.out]; go_num, by rw [HSW.out, HG.out]; rw [decide_eq_true (by omega)], hfin, hmm⟩, rfl⟩)
          case measure => simp [intOf]; omega
        · have hd : decide (512 < wd) = false := decide_eq_false hwd
          rw [hd]
          by_cases hov : 512 < wd + x.len
          · rw [show decide (wd ≤ 512 ∧ 512 < wd + x.len) = true from decide_eq_true (by omega)] at hR
            have HIN := Lib.hid hin
            have HR := Lib.hid hR
            have HG := Lib.hid hg
            clear hin hR hg hv
            go_wp2_with (first
              | (go_at_call 73; refine (HIN.out _).mono ?_; rintro e w9 ⟨rfl, rfl⟩)
              | (go_at_call 68; refine (report_l hCZ _ _ _ (by omega)).mono ?_; rintro e w1 ⟨rfl, hC1, hM1, hl1⟩; have hY1 := hY.mut hM1; have y1 := hY1.cell (o := 1) rfl; have y2 := hY1.cell (o := 2) rfl; have y3 := hY1.cell (o := 3) rfl)
              | (go_at_call 68; refine (report_l hC1 _ _ _ (by omega)).mono ?_; rintro e w2 ⟨rfl, hC2, hM2, hl2⟩; have hY2 := hY1.mut hM2; have y1 := hY2.cell (o := 1) rfl; have y2 := hY2.cell (o := 2) rfl; have y3 := hY2.cell (o := 3) rfl)
              | (go_at_call 68; refine (report_l hC2 _ _ _ (by omega)).mono ?_; rintro e w3 ⟨rfl, hC3, hM3, hl3⟩))
            have hfin : Chk K w3 b (s.add (dataG 0 (K.p.globals.take (k + 1)))) := hC3.mk2 (by rw [HDS.out, CkS.add_app, HST.out, HR.out]; simp only [CkS.add_app, Bool.not_false, Bool.true_and]; first | rfl | simp [rep, CkS.add_nil])
            have hmm : CMut b w w3 := ((((hMZ.trans hM1).trans hM2)).trans hM3)
            go_roundw
            case rel => first | exact ⟨k + 1, by omega, by go_num, by rw [HSW.out, HG.out]; go_num, by rw [HSW.out, HG.out]; rw [decide_eq_true (by omega)], hfin, hmm⟩ | ((repeat apply Exists.intro); exact ⟨⟨k + 1, by omega, by go_num, by rw [HSW.out, HG.out]; go_num, by rw [HSW.out, HG.out]; rw [decide_eq_true (by omega)], hfin, hmm⟩, rfl⟩)
            case measure => simp [intOf]; omega
          · rw [show decide (wd ≤ 512 ∧ 512 < wd + x.len) = false from decide_eq_false (by omega)] at hR
            have HIN := Lib.hid hin
            have HR := Lib.hid hR
            have HG := Lib.hid hg
            clear hin hR hg hv
            go_wp2_with (first
              | (go_at_call 73; refine (HIN.out _).mono ?_; rintro e w9 ⟨rfl, rfl⟩)
              | (go_at_call 68; refine (report_l hCZ _ _ _ (by omega)).mono ?_; rintro e w1 ⟨rfl, hC1, hM1, hl1⟩; have hY1 := hY.mut hM1; have y1 := hY1.cell (o := 1) rfl; have y2 := hY1.cell (o := 2) rfl; have y3 := hY1.cell (o := 3) rfl)
              | (go_at_call 68; refine (report_l hC1 _ _ _ (by omega)).mono ?_; rintro e w2 ⟨rfl, hC2, hM2, hl2⟩; have hY2 := hY1.mut hM2; have y1 := hY2.cell (o := 1) rfl; have y2 := hY2.cell (o := 2) rfl; have y3 := hY2.cell (o := 3) rfl)
              | (go_at_call 68; refine (report_l hC2 _ _ _ (by omega)).mono ?_; rintro e w3 ⟨rfl, hC3, hM3, hl3⟩))
            have hfin : Chk K w2 b (s.add (dataG 0 (K.p.globals.take (k + 1)))) := hC2.mk2 (by rw [HDS.out, CkS.add_app, HST.out, HR.out]; simp only [CkS.add_app, Bool.not_false, Bool.true_and]; first | rfl | simp [rep, CkS.add_nil])
            have hmm : CMut b w w2 := (((hMZ.trans hM1).trans hM2))
            go_roundw
            case rel => first | exact ⟨k + 1, by omega, by go_num, by rw [HSW.out, HG.out]; go_num, by rw [HSW.out, HG.out]; rw [decide_eq_false (by omega)], hfin, hmm⟩ | ((repeat apply Exists.intro); exact ⟨⟨k + 1, by omega, by go_num, by rw [HSW.out, HG.out]; go_num, by rw [HSW.out, HG.out]; rw [decide_eq_false (by omega)], hfin, hmm⟩, rfl⟩)
            case measure => simp [intOf]; omega
    · have hk2 : k = K.p.globals.length := by omega
      subst hk2
      generalize decide (512 < sumW (List.take K.p.globals.length K.p.globals)) = sf
      generalize sumW (List.take K.p.globals.length K.p.globals) = sw
      rw [List.take_length] at hC
      obtain ⟨vl', vs', hk'⟩ := hC.ck
      have c4 := hk'.cell (o := 4) rfl
      rw [e4] at c4
      clear hk' c1
      go_wp2_with fail
      go_loopw [63] (fun i w2 => ∃ j : Nat, j ≤ K.p.channels.length ∧ i = .int .i64 j ∧ Chk K w2 b (s.add (dataG 0 K.p.globals ++ chanR (K.p.channels.take j))) ∧ CMut b w w2) (fun i _ => K.p.channels.length - (intOf i).toNat)
      case atStart => exact ⟨0, Nat.zero_le _, rfl, hC.mk2 (by simp [chanR]), hM⟩
      case round =>
        obtain ⟨j, hjl, rfl, hC, hM⟩ := hrel
        rename World => w2
        have hdl := CkS.add_len s (dataG 0 K.p.globals ++ chanR (K.p.channels.take j))
        have hdg := dataG_len K.p.globals 0
        have hdh := chanR_len (K.p.channels.take j)
        rw [List.length_append] at hdl
        rw [List.length_take, Nat.min_eq_left hjl] at hdh
        by_cases hlt : j < K.p.channels.length
        · obtain ⟨x, bg, off, hx, rfl, hb, c0, c1, c2⟩ := ChansAt.at (SliceAt.lift hch (h.keep hM)) hlt
          have hds := chanR_snoc (K.p.channels.take j) x
          rw [← take_snoc hx] at hds
          have HDS := Lib.hid hds
          clear hds hx
          generalize hst : s.add (dataG 0 K.p.globals ++ chanR (K.p.channels.take j)) = st at hC hdl ⊢
          have HST := Lib.hid hst
          clear hst
          have hl0 : st.out.length ≤ 1000000 := by omega
          go_upto_region 16 with fail
          have hZ := (Below.refl w2.heap.size w2).alloc (Nat.le_refl _) (.cells #[.string x.name, .int .i64 x.cap, .int .i64 x.pos] 97)
          have hY := hC.loc #[.string x.name, .int .i64 x.cap, .int .i64 x.pos] 97
          generalize w2.alloc (.cells #[.string x.name, .int .i64 x.cap, .int .i64 x.pos] 97) = Z at hY hZ ⊢
          have hCZ := hC.later hZ
          have hMZ := hM.trans (hC.mutOf hZ)
          have y1 := hY.cell (o := 1) rfl
          have y2 := hY.cell (o := 2) rfl
          clear c0 c1 c2
          go_still_tail 7, mixed
          still_call (within_any _ _ _ _)
          repeat still_step
          refine wpStill_nil ?_
          have hCD := hCZ.later ((Below.refl Z.heap.size Z).drew)
          have hMD := hMZ.trans (hCZ.mutOf ((Below.refl Z.heap.size Z).drew))
          change wpList _ _ _ _ _ Z.drew
          go_wp2_with (go_at_call 68; refine (report_l hCD _ _ _ hl0).mono ?_; rintro e w3 ⟨rfl, hC3, hM3, hl3⟩)
          have hfin : Chk K w3 b (s.add (dataG 0 K.p.globals ++ chanR (K.p.channels.take (j + 1)))) := hC3.mk2 (by rw [HDS.out, ← List.append_assoc, CkS.add_app s _ (rep _ _ _), HST.out, Bool.decide_and, Bool.not_and])
          have hmm := hMD.trans hM3
          go_roundw
          case rel => first | exact ⟨j + 1, by omega, by go_num, hfin, hmm⟩ | ((repeat apply Exists.intro); exact ⟨⟨j + 1, by omega, by go_num, hfin, hmm⟩, rfl⟩)
          case measure => simp [intOf]; omega
        · have hk2 : j = K.p.channels.length := by omega
          subst hk2
          rw [List.take_length] at hC
          go_wp2_with fail
          go_end0
          exact ⟨rfl, hC, hM⟩
end Go.Proofs.YtkfdnlfkomhmfaaGreatDoor

namespace Go.Proofs.YtkfdnlfkomhmfaaGreatDoor
open Go.RowKit

theorem still_of_quiet {P : Program} {ops : Array Oper} {W : World} {Q : Act → Prop} : ∀ (l : List Oper) (a : Act), wpQuiet P ops (fun w' => w' = W) Q l a → wpStill P ops W Q l a
  | [], _, h => h
  | o :: l, a, h => by
    unfold wpQuiet at h
    unfold wpStill
    split
    · next hw =>
      rw [if_pos hw] at h
      obtain ⟨v, h1, h2⟩ := h
      have h3 := h1 W rfl
      have h4 := still_of_quiet l _ h2
      unfold Oper.quietAt at h3
      unfold Oper.still
      generalize (execOp a.eval o).run P W = r at *
      cases r with
      | ok n w' =>
        cases n <;> simp only [Oper.quietUpon] at h3 <;> simp only [Oper.stillUpon]
        case value u => obtain ⟨e1, e2⟩ := h3; subst e2; exact ⟨e1, h4⟩
        case skip => obtain ⟨e1, e2⟩ := h3; subst e2; exact ⟨e1, h4⟩
        case enter f args => exact ⟨h3.1, v, h3.2, h4⟩
      | halt x w' => exact h3.elim
    · next hw =>
      rw [if_neg hw] at h
      exact still_of_quiet l _ h
theorem wp_region_tailq {id : Nat} {Q : Exit → Act → World → Prop} {a : Act} {w : World} {l : List Oper} (n : Nat) (hm : Tryz.prog.follows .mixedOrders = true) (hB : Region.lexTailB .any l.toArray n = true)
    (h : wpQuiet Tryz.prog l.toArray (fun w' => w' = w.drew) (fun a' => wpList Tryz.prog l.toArray Q (l.drop n) a' w.drew) (l.take n) a) : (Code.region id l.toArray true).wp Tryz.prog Q a w :=
  wp_region_still_tail n hm hB (still_of_quiet _ _ h)
end Go.Proofs.YtkfdnlfkomhmfaaGreatDoor

namespace Go.Proofs.YtkfdnlfkomhmfaaGreatDoor
open Go.RowKit
set_option linter.unusedVariables false
set_option linter.unusedSimpArgs false

def cnt (l : List Decl) (s : ByteArray) : Nat := (l.filter fun d => decide (d.name = s)).length
def cntF (l : List Decl) (s : ByteArray) : Option Value := if cnt l s = 0 then none else some (.int .i64 (cnt l s : Nat))
theorem cnt_snoc (l : List Decl) (d : Decl) (s : ByteArray) : cnt (l ++ [d]) s = cnt l s + if d.name = s then 1 else 0 := by
  unfold cnt
  rw [List.filter_append, List.length_append]
  by_cases h : d.name = s <;> simp [h]
theorem cnt_le (l : List Decl) (s : ByteArray) : cnt l s ≤ l.length := List.length_filter_le _ _
theorem cntF_upd (l : List Decl) (d : Decl) : Upd (cntF l) d.name (.int .i64 ((cnt l d.name : Nat) + 1 : Int)) = cntF (l ++ [d]) := by
  funext s
  unfold Upd cntF
  rw [cnt_snoc]
  by_cases h : s = d.name
  · subst h; simp
  · have h' : ¬ d.name = s := fun e => h e.symm
    simp [h, h']
theorem cntF_get (l : List Decl) (s : ByteArray) : (cntF l s).getD (.int .i64 0) = .int .i64 ((cnt l s : Nat) : Int) := by
  unfold cntF; split
  · next h => rw [h]; rfl
  · rfl
def dupG : List Decl → List Decl → List Diag
  | _, [] => []
  | pre, d :: l => rep (decide (0 < cnt pre d.name)) d.pos tDup ++ dupG (pre ++ [d]) l
theorem dupG_snoc (l : List Decl) (d : Decl) : ∀ pre, dupG pre (l ++ [d]) = dupG pre l ++ rep (decide (0 < cnt (pre ++ l) d.name)) d.pos tDup := by
  induction l with
  | nil => intro pre; simp [dupG]
  | cons x l ih => intro pre; simp [dupG, ih]
theorem dupG_len (l : List Decl) : ∀ pre, (dupG pre l).length ≤ l.length := by
  induction l with
  | nil => intro pre; simp [dupG]
  | cons x l ih => intro pre; have := ih (pre ++ [x]); have := rep_len (decide (0 < cnt pre x.name)) x.pos tDup; simp only [dupG, List.length_append, List.length_cons]; omega

theorem Mut.nf {i j b : Nat} {w w' : World} (hm : Mut i j b w w') {k : Nat} (hk : k < w.heap.size) (nf : ¬ Foot i j w b k) : ¬ Foot i j w' b k := fun q => by
  rcases hm.foot k q with r | r
  · exact nf r
  · omega
theorem foot_same {i j b : Nat} {w w' : World} (hb : w'.heap[b]? = w.heap[b]?) (k : Nat) : Foot i j w' b k ↔ Foot i j w b k := by
  have e : ∀ o, w'.cell? ⟨b, o, none⟩ = w.cell? ⟨b, o, none⟩ := fun o => World.cell?_of_block (a := ⟨b, o, none⟩) hb
  simp only [Foot, e]
/-- a block of one's own that is no part of the box turns -/
theorem Mut.grown {i j b : Nat} {w wr w' : World} (hm : Mut i j b w wr) {mb : Nat} (hg : wr.grownBy w' (some mb)) (hb : b < wr.heap.size) (hmb : w.heap.size ≤ mb) (nf : ¬ Foot i j wr b mb) : Mut i j b w w' := by
  have hbm : b ≠ mb := fun e => nf (.inl e.symm)
  have hbb := hg.block b hb (fun e => hbm (Option.some.inj e))
  exact ⟨hg.os.trans hm.os, hg.tape.trans hm.tape, hg.output.trans hm.output, Nat.le_trans hm.size hg.size,
    fun k hk hf => (hg.block k (Nat.lt_of_lt_of_le hk hm.size) (fun e => by have := Option.some.inj e; omega)).trans (hm.block k hk hf),
    fun k hk => hm.foot k ((foot_same hbb k).1 hk)⟩
theorem Chk.grown {K : CkK} {wr w' : World} {b : Nat} {s : CkS} (h : Chk K wr b s) {mb : Nat} (hg : wr.grownBy w' (some mb)) (hmb : K.B ≤ mb) (nf : ¬ Foot 7 8 wr b mb) : Chk K w' b s := by
  have hne : ∀ k, Foot 7 8 wr b k → k ≠ mb := fun k hk e => nf (e ▸ hk)
  obtain ⟨vl, vs, hk⟩ := h.ck
  obtain ⟨va, vb, q1, q2, q3, q4, q5, q6, q7⟩ := hk.ex
  have hbl : Below K.B wr w' := (Below.refl K.B wr).grown hg h.hB (fun k e => by cases e; exact hmb)
  refine ⟨h.prog.lift (hbl.mono h.hN), h.hN, h.map.kept (hbl.block _ h.hm), h.hm, vl, vs, ?_, hk.low, va, vb, q1, q2, q3.kept hg.size (fun k e => ?_), q4.kept hg.size (fun k e => ?_), q5, q6, q7⟩
  · exact (hg.block b hk.lt (fun e => hne b (.inl rfl) (Option.some.inj e))).trans hk.heap
  · exact hg.block k (q3.block k e).2 (fun e' => hne k (.inr (.inl ⟨va, hk.cell q1, e⟩)) (Option.some.inj e'))
  · exact hg.block k (q4.block k e).2 (fun e' => hne k (.inr (.inr ⟨vb, hk.cell q2, e⟩)) (Option.some.inj e'))
theorem OwnAt.mut {α : Type} {f : α → List Value} {sz : Nat} {E : TypeId} {B : Nat} {i j b : Nat} {w w' : World} {v : Value} {l : List α} (h : OwnAt f sz E B w v l) (hm : Mut i j b w w') (nf : ∀ k, v.ownBlock = some k → ¬ Foot i j w b k) :
    OwnAt f sz E B w' v l ∧ ∀ k, v.ownBlock = some k → ¬ Foot i j w' b k :=
  ⟨h.kept hm.size fun k e => hm.block k (h.block k e).2 (nf k e), fun k e => hm.nf (h.block k e).2 (nf k e)⟩
theorem wpList_updateS {P : Program} (w : World) {ops : Array Oper} {rest : List Oper} {o : Oper} {a : Act} {Q : Exit → Act → World → Prop}
    (hg : o.guard = none) (m x v : Operand) (t : TypeId) (hop : o.op = Op.mapUpdate t m x v) (k e : TypeId) (ht : P.underlying t = some (.map k e)) (hk : P.underlying k = some .string) (b : Nat) (G : ByteArray → Option Value)
    (hm : a.eval m = .map (some b)) (hown : MapS w b G) (key : ByteArray) (val : Value) (hx : a.eval x = .string key) (hv : a.eval v = val)
    (hK : ∀ w', MapS w' b (Upd G key val) → w.grownBy w' (some b) → wpList P ops Q rest (a.put o.dst undef) w') : wpList P ops Q (o :: rest) a w := by
  refine wpList_plain hg fun K' hK' => ?_
  obtain ⟨w', hrun, r1, r2⟩ := hown.update ht hk key val
  unfold Oper.wp
  simp [execOp, hop, hm, hx, hv, hrun, Result.andThen]
  exact hK' _ _ (hK w' r1 r2)

set_option maxRecDepth 100000 in
set_option maxHeartbeats 8000000 in
theorem names_any {K : CkK} {w : World} {b : Nat} {s : CkS} (h : Chk K w b s) (hl : s.out.length + (namesOf K.p).length ≤ 1000000) :
    Calls Tryz.prog 36 #[.pointer (some ⟨b, 0, none⟩)] w fun e w' => e = .returned (.tuple #[]) ∧ Chk K w' b (s.add (dupG [] (namesOf K.p))) ∧ CMut b w w' := by
  obtain ⟨v0, v1, v2, v3, v4, v5, m, N, B, p⟩ := K
  have hp := h.prog
  simp only at hp hl
  obtain ⟨vl, vs, hk⟩ := h.ck
  obtain ⟨o0, q0, rfl, _, _, n0⟩ := SliceAt.slice hp.consts
  obtain ⟨o1, q1, rfl, _, _, n1⟩ := SliceAt.slice hp.globals
  obtain ⟨o2, q2, rfl, _, _, n2⟩ := SliceAt.slice hp.sensors
  obtain ⟨o3, q3, rfl, _, _, n3⟩ := SliceAt.slice hp.outputs
  obtain ⟨o4, q4, rfl, _, _, n4⟩ := SliceAt.slice hp.channels
  obtain ⟨o5, q5, rfl, _, _, n5⟩ := hp.tasks.slice
  have hmm := @run_makeMap Tryz.prog
  have hz : ∀ w, (zeroValue 3).run Tryz.prog w = .ok (.int .i64 0) w := fun w => by kernel_rfl
  go_enter Tryz.func36, Tryz.ntmps36
  go_upto_region 1 with fail
  have hWB := (Below.refl w.heap.size w).alloc (Nat.le_refl _) (.map #[] 0)
  have hMS := MapS.made w
  have hmF : ∀ k, Foot 7 8 w b k → k < w.heap.size := fun k hk' => (hk.foot hk').2
  have hnf0 : ¬ Foot 7 8 (w.alloc (.map #[] 0)) b w.heap.size := fun q => by
    have := hmF _ ((foot_same (hWB.block b hk.lt) _).1 q); omega
  generalize w.alloc (.map #[] 0) = W at hMS hWB hnf0 ⊢
  have hkW := hk.later hWB
  have hCW := h.later hWB
  have hMW := h.mutOf hWB
  have c0 := hkW.cell (o := 0) rfl
  have c1 := hkW.cell (o := 1) rfl
  have c2 := hkW.cell (o := 2) rfl
  have c3 := hkW.cell (o := 3) rfl
  have c4 := hkW.cell (o := 4) rfl
  have c5 := hkW.cell (o := 5) rfl
  have hnl : (namesOf p).length ≤ 7000000 := by omega
  clear hk
  go_wp2_with (go_at_call 66; refine (declarations_any p _ _ _ _ _ _ N _ hCW.prog hCW.lowN).mono ?_; rintro e w1 ⟨v, rfl, hO, hB1⟩; obtain ⟨oa, cap, rfl, _, _⟩ := hO.slice)
  clear c0 c1 c2 c3 c4 c5
  have hC1 := hCW.later hB1
  have hM1 := hMW.trans (hCW.mutOf hB1)
  have hMS1 := hMS.later hB1
  have hfs := fun k => foot_same (i := 7) (j := 8) (hB1.block b hCW.lt) k
  have hnf1 : ¬ Foot 7 8 w1 b w.heap.size := fun q => hnf0 ((hfs _).1 q)
  have hnfO : ∀ k, (Value.slice oa (namesOf p).length cap).ownBlock = some k → ¬ Foot 7 8 w1 b k := fun k e q => by
    have h1 := (hO.block k e).1
    have h2 := (hfs _).1 q
    have h3 := hMW.foot k h2
    rcases h3 with r | r
    · have := hmF k r; have := hWB.size; omega
    · obtain ⟨vl', vs', hk'⟩ := hCW.ck
      have := (hk'.foot h2).2; omega
  generalize hL : namesOf p = L at *
  have HLL := Lib.hid hL
  have hWlt := hMS.lt
  clear hL hnf0 hMS hMW hCW hfs hB1
  go_loopw [12] (fun i wr => ∃ k : Nat, k ≤ L.length ∧ i = .int .i64 k ∧ Chk ⟨.slice o0 p.consts.length q0, .slice o1 p.globals.length q1, .slice o2 p.sensors.length q2, .slice o3 p.outputs.length q3, .slice o4 p.channels.length q4, .slice o5 p.tasks.length q5, m, N, B, p⟩ wr b (s.add (dupG [] (L.take k))) ∧ CMut b w wr ∧
      (OwnAt Decl.cells 4 86 W.heap.size wr (.slice oa L.length cap) L ∧ ∀ k, (Value.slice oa L.length cap).ownBlock = some k → ¬ Foot 7 8 wr b k) ∧ MapS wr w.heap.size (cntF (L.take k)) ∧ ¬ Foot 7 8 wr b w.heap.size) (fun i _ => L.length - (intOf i).toNat)
  case atStart => exact ⟨0, Nat.zero_le _, rfl, hC1, hM1, ⟨hO, hnfO⟩, by rw [List.take_zero]; exact hMS1, hnf1⟩
  case round =>
    obtain ⟨k, hkl, rfl, hC, hM, ⟨hOr, hnO⟩, hMr, hnM⟩ := hrel
    rename World => wr
    have hdl := CkS.add_len s (dupG [] (L.take k))
    have hdg := dupG_len (L.take k) []
    rw [List.length_take, Nat.min_eq_left hkl] at hdg
    by_cases hlt : k < L.length
    · obtain ⟨x, bx, hx, rfl, hb, c0, c1, c2, c3⟩ := OwnAt.declAt hOr hlt
      have hds := dupG_snoc (L.take k) x []
      rw [← take_snoc hx, List.nil_append] at hds
      have hup := cntF_upd (L.take k) x
      rw [← take_snoc hx] at hup
      have hcl : cnt (L.take k) x.name ≤ 7000000 := Nat.le_trans (cnt_le _ _) (by rw [List.length_take]; omega)
      have hcg := Lib.hid (cntF_get (L.take k) x.name)
      generalize cnt (L.take k) x.name = c at hds hup hcl hcg
      have HDS := Lib.hid hds
      have HUP := Lib.hid hup
      clear hds hup hx
      generalize hst : s.add (dupG [] (L.take k)) = st at hC hdl ⊢
      have HST := Lib.hid hst
      clear hst
      have hl0 : st.out.length ≤ 1000000 := by omega
      go_upto_region 4 with fail
      have hZ := (Below.refl wr.heap.size wr).alloc (Nat.le_refl _) (.cells #[.string x.name, .int .i64 x.kind, .int .i64 x.index, .int .i64 x.pos] 86)
      have hY := hC.loc #[.string x.name, .int .i64 x.kind, .int .i64 x.index, .int .i64 x.pos] 86
      generalize wr.alloc (.cells #[.string x.name, .int .i64 x.kind, .int .i64 x.index, .int .i64 x.pos] 86) = Z at hY hZ ⊢
      have hCZ := hC.later hZ
      have hMZm := hC.mutOf hZ
      have hMZ := hM.trans hMZm
      obtain ⟨hOZ, hnOZ⟩ := hOr.mut hMZm hnO
      have hMSZ := hMr.later hZ
      have hnMZ := hMZm.nf hMr.lt hnM
      have y0 := hY.cell (o := 0) rfl
      have y3 := hY.cell (o := 3) rfl
      clear c0 c1 c2 c3
      go_wp2_with (first
        | (refine wpList_lookup1S _ rfl _ _ 122 rfl 9 3 Tryz.underlying122 Tryz.underlying9 hz _ _ rfl hMSZ _ rfl (.int .i64 ((c : Nat) : Int)) hcg.out ?_)
        | (go_at_call 68; refine (report_l hCZ _ _ _ hl0).mono ?_; rintro e w3 ⟨rfl, hC3, hM3, hl3⟩; have y0 := (hY.mut hM3).cell (o := 0) rfl; have hMS3 := hMSZ.kept (hM3.block _ hMSZ.lt hnMZ); have hnM3 := hM3.nf hMSZ.lt hnMZ; obtain ⟨hO3, hnO3⟩ := hOZ.mut hM3 hnOZ)
        | (refine wpList_lookup1S _ rfl _ _ 122 rfl 9 3 Tryz.underlying122 Tryz.underlying9 hz _ _ rfl hMS3 _ rfl (.int .i64 ((c : Nat) : Int)) hcg.out ?_)
        | (refine wpList_updateS _ rfl _ _ _ 122 rfl 9 3 Tryz.underlying122 Tryz.underlying9 _ _ rfl hMS3 _ _ rfl rfl ?_; intro w4 hMS4 hg4))
      have hC4 := hC3.grown hg4 h.hB hnM3
      have hM4 := (hMZ.trans hM3).grown hg4 hC3.lt (Nat.le_refl _) hnM3
      have hbb : w4.heap[b]? = w3.heap[b]? := hg4.block b hC3.lt (fun e => hnM3 (.inl (Option.some.inj e).symm))
      have hO4 := hO3.kept hg4.size (fun k e => hg4.block k (hO3.block k e).2 (fun e' => by have h1 := (hO3.block k e).1; have h2 := Option.some.inj e'; omega))
      have hnO4 : ∀ k, (Value.slice (some ⟨bx, 0, none⟩) L.length cap).ownBlock = some k → ¬ Foot 7 8 w4 b k := fun k e q => hnO3 k e ((foot_same hbb k).1 q)
      have hnM4 : ¬ Foot 7 8 w4 b w.heap.size := fun q => hnM3 ((foot_same hbb _).1 q)
      have hfin := hC4.mk2 (s' := s.add (dupG [] (L.take (k + 1)))) (by rw [HDS.out, CkS.add_app, HST.out])
      have hMS5 : MapS w4 w.heap.size (cntF (L.take (k + 1))) := by rw [← HUP.out]; exact hMS4
      go_roundw
      case rel => first | exact ⟨k + 1, by omega, by go_num, hfin, hM4, ⟨hO4, hnO4⟩, hMS5, hnM4⟩ | ((repeat apply Exists.intro); exact ⟨⟨k + 1, by omega, by go_num, hfin, hM4, ⟨hO4, hnO4⟩, hMS5, hnM4⟩, rfl⟩)
      case measure => simp [intOf]; omega
    · have hk2 : k = L.length := by omega
      subst hk2
      rw [List.take_length] at hC
      go_wp2_with fail
      go_end0
      exact ⟨rfl, hC.mk2 (by rw [HLL.out]), hM⟩
end Go.Proofs.YtkfdnlfkomhmfaaGreatDoor
