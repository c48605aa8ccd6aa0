/- The checker's data. -/
import Derived.Test.YtkfdnlfkomhmfaaGreatDoorLim
import Derived.StillTailTactics
namespace Go.Proofs.YtkfdnlfkomhmfaaGreatDoor
open Go.RowKit
set_option linter.unusedVariables false
set_option linter.unusedSimpArgs false

theorem report_l {K : CkK} {w : World} {b : Nat} {s : CkS} (h : Chk K w b s) (bad : Bool) (pos : Int) (text : ByteArray) (hl : s.out.length ≤ 1000000) :
    Calls Tryz.prog 68 #[.pointer (some ⟨b, 0, none⟩), .bool bad, .int .i64 pos, .string text] w fun e w' => e = .returned (.tuple #[]) ∧ Chk K w' b (s.add (rep bad pos text)) ∧ CMut b w w' ∧ (s.add (rep bad pos text)).out.length ≤ s.out.length + 1 :=
  (report_any h bad pos text hl).mono fun e w' ⟨h1, h2, h3⟩ => ⟨h1, h2, h3, rep_add_len s bad pos text⟩

def gvalid (g : Glob) : Bool := decide (0 ≤ g.len ∧ g.len ≤ 64)
def gw (g : Glob) : Int := if 0 ≤ g.len ∧ g.len ≤ 64 then max g.len 1 else 0
def globR (n : Int) (g : Glob) : List Diag := rep (!gvalid g) g.pos tLen ++ (rep (g.len != 0 && g.init != 0) g.pos tInit ++ rep (decide (n ≤ 512 ∧ 512 < n + gw g)) g.pos tData)
def sumW : List Glob → Int
  | [] => 0
  | g :: l => gw g + sumW l
def dataG : Int → List Glob → List Diag
  | _, [] => []
  | n, g :: l => globR n g ++ dataG (n + gw g) l
def chanR (l : List Chan) : List Diag := l.flatMap fun h => rep (!decide (1 ≤ h.cap ∧ h.cap ≤ 16)) h.pos tCap
theorem sumW_snoc (l : List Glob) (g : Glob) : sumW (l ++ [g]) = sumW l + gw g := by
  induction l with
  | nil => simp [sumW]
  | cons x l ih => simp [sumW, ih]; omega
theorem dataG_snoc (l : List Glob) (g : Glob) : ∀ n, dataG n (l ++ [g]) = dataG n l ++ globR (n + sumW l) g := by
  induction l with
  | nil => intro n; simp [dataG, sumW]
  | cons x l ih => intro n; simp [dataG, sumW, ih, Int.add_assoc]
theorem chanR_snoc (l : List Chan) (h : Chan) : chanR (l ++ [h]) = chanR l ++ rep (!decide (1 ≤ h.cap ∧ h.cap ≤ 16)) h.pos tCap := by simp [chanR]
theorem gw_bd (g : Glob) : 0 ≤ gw g ∧ gw g ≤ 64 := by unfold gw; split <;> omega
theorem sumW_bd (l : List Glob) : 0 ≤ sumW l ∧ sumW l ≤ 64 * l.length := by
  induction l with
  | nil => simp [sumW]
  | cons x l ih => have := gw_bd x; simp only [sumW, List.length_cons]; omega
theorem globR_len (n : Int) (g : Glob) : (globR n g).length ≤ 3 := by
  unfold globR
  simp only [List.length_append]
  have h1 := rep_len (!gvalid g) g.pos tLen
  have h2 := rep_len (g.len != 0 && g.init != 0) g.pos tInit
  have h3 := rep_len (decide (n ≤ 512 ∧ 512 < n + gw g)) g.pos tData
  omega
theorem dataG_len (l : List Glob) : ∀ n, (dataG n l).length ≤ 3 * l.length := by
  induction l with
  | nil => intro n; simp [dataG]
  | cons x l ih => intro n; have := ih (n + gw x); have := globR_len n x; simp only [dataG, List.length_append, List.length_cons]; omega
theorem chanR_len (l : List Chan) : (chanR l).length ≤ l.length := by
  induction l with
  | nil => simp [chanR]
  | cons x l ih => have := rep_len (!decide (1 ≤ x.cap ∧ x.cap ≤ 16)) x.pos tCap; simp only [chanR, List.flatMap_cons, List.length_append, List.length_cons] at *; omega

set_option maxRecDepth 100000 in
set_option maxHeartbeats 8000000 in
theorem data_any {K : CkK} {w : World} {b : Nat} {s : CkS} (h : Chk K w b s) (hl : s.out.length + 3 * K.p.globals.length + K.p.channels.length ≤ 1000000) :
    Calls Tryz.prog 35 #[.pointer (some ⟨b, 0, none⟩)] w fun e w' => e = .returned (.tuple #[]) ∧ Chk K w' b (s.add (dataG 0 K.p.globals ++ chanR K.p.channels)) ∧ CMut b w w' := by
  obtain ⟨vl, vs, hk⟩ := h.ck
  have hp := h.prog
  obtain ⟨o1, q1, e1, _, _, n1⟩ := SliceAt.slice hp.globals
  obtain ⟨o4, q4, e4, _, _, n4⟩ := SliceAt.slice hp.channels
  have hgl := hp.globals
  rw [e1] at hgl
  have hch := hp.channels
  rw [e4] at hch
  have hwfg := Lib.hid hp.wfg
  have hwfh := Lib.hid hp.wfh
  have c1 := hk.cell (o := 1) rfl
  rw [e1] at c1
  clear hk
  go_enter Tryz.func35, Tryz.ntmps35
  go_wp2_with fail
  go_loopw [2, 3, 15] (fun vw vf i wr => ∃ k : Nat, k ≤ K.p.globals.length ∧ i = .int .i64 k ∧ vw = .int .i64 (sumW (K.p.globals.take k)) ∧ vf = .bool (decide (512 < sumW (K.p.globals.take k))) ∧ Chk K wr b (s.add (dataG 0 (K.p.globals.take k))) ∧ CMut b w wr) (fun _ _ i _ => K.p.globals.length - (intOf i).toNat)
  case atStart => exact ⟨0, Nat.zero_le _, rfl, rfl, rfl, h, Mut.refl _ _ _ _⟩
  case round =>
    obtain ⟨k, hkl, rfl, rfl, rfl, hC, hM⟩ := hrel
    rename World => wr
    have hdl := CkS.add_len s (dataG 0 (K.p.globals.take k))
    have hdg := dataG_len (K.p.globals.take k) 0
    rw [List.length_take, Nat.min_eq_left hkl] at hdg
    by_cases hlt : k < K.p.globals.length
    · obtain ⟨x, bg, off, hx, rfl, hb, c0, c1, c2, c3⟩ := GlobsAt.at (SliceAt.lift hgl (h.keep hM)) hlt
      have hsw := sumW_snoc (K.p.globals.take k) x
      have hds := dataG_snoc (K.p.globals.take k) x 0
      rw [← take_snoc hx] at hsw hds
      have hbd := sumW_bd (K.p.globals.take k)
      rw [List.length_take, Nat.min_eq_left hkl] at hbd
      have hxw := hwfg.out k hlt
      have hxd : K.p.globals.getD k default = x := by simp [List.getD, hx]
      rw [hxd] at hxw
      obtain ⟨_, hxl, _, _⟩ := hxw
      unfold I64 at hxl
      rw [Int.zero_add] at hds
      have HDS := Lib.hid hds
      generalize sumW (K.p.globals.take k) = wd at hsw hbd HDS ⊢
      have HSW := Lib.hid hsw
      clear hsw hds hx hxd
      generalize hst : s.add (dataG 0 (K.p.globals.take k)) = st at hC hdl ⊢
      have HST := Lib.hid hst
      clear hst
      have hl0 : st.out.length + 3 ≤ 1000000 := by omega
      go_upto_region 4 with fail
      have hZ := (Below.refl wr.heap.size wr).alloc (Nat.le_refl _) (.cells #[.string x.name, .int .i64 x.len, .int .i16 x.init, .int .i64 x.pos] 69)
      have hY := hC.loc #[.string x.name, .int .i64 x.len, .int .i16 x.init, .int .i64 x.pos] 69
      generalize wr.alloc (.cells #[.string x.name, .int .i64 x.len, .int .i16 x.init, .int .i64 x.pos] 69) = Z at hY hZ ⊢
      have hCZ := hC.later hZ
      have hMZ := hM.trans (hC.mutOf hZ)
      have y1 := hY.cell (o := 1) rfl
      have y2 := hY.cell (o := 2) rfl
      have y3 := hY.cell (o := 3) rfl
      clear c0 c1 c2 c3
      have cases3 : (gvalid x = false ∧ gw x = 0 ∧ (x.len != 0) = true) ∨ (gvalid x = true ∧ gw x = 1 ∧ (x.len != 0) = false ∧ x.len = 0) ∨ (gvalid x = true ∧ gw x = x.len ∧ (x.len != 0) = true ∧ 1 ≤ x.len ∧ x.len ≤ 64) := by
        unfold gvalid gw
        by_cases hv : 0 ≤ x.len ∧ x.len ≤ 64
        · rw [decide_eq_true hv, if_pos hv]
          by_cases hz : x.len = 0
          · exact .inr (.inl ⟨rfl, by omega, by simp [hz], hz⟩)
          · exact .inr (.inr ⟨rfl, by omega, by simp [hz], by omega, hv.2⟩)
        · rw [decide_eq_false hv, if_neg hv]
          exact .inl ⟨rfl, rfl, by simp; omega⟩
      have hin := fun w => within_any x.len 0 64 w
      rw [show decide (0 ≤ x.len ∧ x.len ≤ 64) = gvalid x from rfl] at hin
      have hR : globR wd x = rep (!gvalid x) x.pos tLen ++ (rep (x.len != 0 && x.init != 0) x.pos tInit ++ rep (decide (wd ≤ 512 ∧ 512 < wd + gw x)) x.pos tData) := rfl
      rcases cases3 with ⟨hv, hg, hz⟩ | ⟨hv, hg, hz, hz0⟩ | ⟨hv, hg, hz, hz1, hz2⟩
      · rw [hv, hz, hg, Int.add_zero] at hR
        rw [hv] at hin
        have hov : decide (wd ≤ 512 ∧ 512 < wd) = false := decide_eq_false (by omega)
        rw [hov] at hR
        by_cases hwd : 512 < wd
        · have hd : decide (512 < wd) = true := decide_eq_true hwd
          rw [hd]
          skip
          have HIN := Lib.hid hin
          have HR := Lib.hid hR
          have HG := Lib.hid hg
          clear hin hR hg hv
          go_wp2_with (first
            | (go_at_call 73; refine (HIN.out _).mono ?_; rintro e w9 ⟨rfl, rfl⟩)
            | (go_at_call 68; refine (report_l hCZ _ _ _ (by omega)).mono ?_; rintro e w1 ⟨rfl, hC1, hM1, hl1⟩; have hY1 := hY.mut hM1; have y1 := hY1.cell (o := 1) rfl; have y2 := hY1.cell (o := 2) rfl; have y3 := hY1.cell (o := 3) rfl)
            | (go_at_call 68; refine (report_l hC1 _ _ _ (by omega)).mono ?_; rintro e w2 ⟨rfl, hC2, hM2, hl2⟩; have hY2 := hY1.mut hM2; have y1 := hY2.cell (o := 1) rfl; have y2 := hY2.cell (o := 2) rfl; have y3 := hY2.cell (o := 3) rfl)
            | (go_at_call 68; refine (report_l hC2 _ _ _ (by omega)).mono ?_; rintro e w3 ⟨rfl, hC3, hM3, hl3⟩))
          have hfin : Chk K w2 b (s.add (dataG 0 (K.p.globals.take (k + 1)))) := hC2.mk2 (by rw [HDS.out, CkS.add_app, HST.out, HR.out]; simp only [CkS.add_app, Bool.not_false, Bool.true_and]; first | rfl | simp [rep, CkS.add_nil])
          have hmm : CMut b w w2 := (((hMZ.trans hM1).trans hM2))
          go_roundw
          case rel => first | exact ⟨k + 1, by omega, by go_num, by rw [HSW.out, HG.out]; go_num, by rw [HSW.out, HG.out]; rw [decide_eq_true (by omega)], hfin, hmm⟩ | ((repeat apply Exists.intro); exact ⟨⟨k + 1, by omega, by go_num, by rw [HSW.out, HG.out]; go_num, by rw [HSW.out, HG.out]; rw [decide_eq_true (by omega)], hfin, hmm⟩, rfl⟩)
          case measure => simp [intOf]; omega
        · have hd : decide (512 < wd) = false := decide_eq_false hwd
          rw [hd]
          skip
          have HIN := Lib.hid hin
          have HR := Lib.hid hR
          have HG := Lib.hid hg
          clear hin hR hg hv
          go_wp2_with (first
            | (go_at_call 73; refine (HIN.out _).mono ?_; rintro e w9 ⟨rfl, rfl⟩)
            | (go_at_call 68; refine (report_l hCZ _ _ _ (by omega)).mono ?_; rintro e w1 ⟨rfl, hC1, hM1, hl1⟩; have hY1 := hY.mut hM1; have y1 := hY1.cell (o := 1) rfl; have y2 := hY1.cell (o := 2) rfl; have y3 := hY1.cell (o := 3) rfl)
            | (go_at_call 68; refine (report_l hC1 _ _ _ (by omega)).mono ?_; rintro e w2 ⟨rfl, hC2, hM2, hl2⟩; have hY2 := hY1.mut hM2; have y1 := hY2.cell (o := 1) rfl; have y2 := hY2.cell (o := 2) rfl; have y3 := hY2.cell (o := 3) rfl)
            | (go_at_call 68; refine (report_l hC2 _ _ _ (by omega)).mono ?_; rintro e w3 ⟨rfl, hC3, hM3, hl3⟩))
          have hfin : Chk K w2 b (s.add (dataG 0 (K.p.globals.take (k + 1)))) := hC2.mk2 (by rw [HDS.out, CkS.add_app, HST.out, HR.out]; simp only [CkS.add_app, Bool.not_false, Bool.true_and]; first | rfl | simp [rep, CkS.add_nil])
          have hmm : CMut b w w2 := (((hMZ.trans hM1).trans hM2))
          go_roundw
          case rel => first | exact ⟨k + 1, by omega, by go_num, by rw [HSW.out, HG.out]; go_num, by rw [HSW.out, HG.out]; rw [decide_eq_false (by omega)], hfin, hmm⟩ | ((repeat apply Exists.intro); exact ⟨⟨k + 1, by omega, by go_num, by rw [HSW.out, HG.out]; go_num, by rw [HSW.out, HG.out]; rw [decide_eq_false (by omega)], hfin, hmm⟩, rfl⟩)
          case measure => simp [intOf]; omega
      · rw [hv, hz, hg] at hR
        rw [hv] at hin
        have hz0' : x.len < 1 := by omega
        clear hz0
        by_cases hwd : 512 < wd
        · have hd : decide (512 < wd) = true := decide_eq_true hwd
          rw [hd]
          rw [show decide (wd ≤ 512 ∧ 512 < wd + 1) = false from decide_eq_false (by omega)] at hR
          have HIN := Lib.hid hin
          have HR := Lib.hid hR
          have HG := Lib.hid hg
          clear hin hR hg hv
          go_wp2_with (first
            | (go_at_call 73; refine (HIN.out _).mono ?_; rintro e w9 ⟨rfl, rfl⟩)
            | (go_at_call 68; refine (report_l hCZ _ _ _ (by omega)).mono ?_; rintro e w1 ⟨rfl, hC1, hM1, hl1⟩; have hY1 := hY.mut hM1; have y1 := hY1.cell (o := 1) rfl; have y2 := hY1.cell (o := 2) rfl; have y3 := hY1.cell (o := 3) rfl)
            | (go_at_call 68; refine (report_l hC1 _ _ _ (by omega)).mono ?_; rintro e w2 ⟨rfl, hC2, hM2, hl2⟩; have hY2 := hY1.mut hM2; have y1 := hY2.cell (o := 1) rfl; have y2 := hY2.cell (o := 2) rfl; have y3 := hY2.cell (o := 3) rfl)
            | (go_at_call 68; refine (report_l hC2 _ _ _ (by omega)).mono ?_; rintro e w3 ⟨rfl, hC3, hM3, hl3⟩))
          have hfin : Chk K w2 b (s.add (dataG 0 (K.p.globals.take (k + 1)))) := hC2.mk2 (by rw [HDS.out, CkS.add_app, HST.out, HR.out]; simp only [CkS.add_app, Bool.not_false, Bool.true_and]; first | rfl | simp [rep, CkS.add_nil])
          have hmm : CMut b w w2 := (((hMZ.trans hM1).trans hM2))
          go_roundw
          case rel => first | exact ⟨k + 1, by omega, by go_num, by rw [HSW.out, HG.out]; go_num, by rw [HSW.out, HG.out]; rw [decide_eq_true (by omega)], hfin, hmm⟩ | ((repeat apply Exists.intro); exact ⟨⟨k + 1, by omega, by go_num, by rw [HSW.out, HG.out]; go_num, by rw [HSW.out, HG.out]; rw [decide_eq_true (by omega)], hfin, hmm⟩, rfl⟩)
          case measure => simp [intOf]; omega
        · have hd : decide (512 < wd) = false := decide_eq_false hwd
          rw [hd]
          by_cases hov : 512 < wd + 1
          · rw [show decide (wd ≤ 512 ∧ 512 < wd + 1) = true from decide_eq_true (by omega)] at hR
            have HIN := Lib.hid hin
            have HR := Lib.hid hR
            have HG := Lib.hid hg
            clear hin hR hg hv
            go_wp2_with (first
              | (go_at_call 73; refine (HIN.out _).mono ?_; rintro e w9 ⟨rfl, rfl⟩)
              | (go_at_call 68; refine (report_l hCZ _ _ _ (by omega)).mono ?_; rintro e w1 ⟨rfl, hC1, hM1, hl1⟩; have hY1 := hY.mut hM1; have y1 := hY1.cell (o := 1) rfl; have y2 := hY1.cell (o := 2) rfl; have y3 := hY1.cell (o := 3) rfl)
              | (go_at_call 68; refine (report_l hC1 _ _ _ (by omega)).mono ?_; rintro e w2 ⟨rfl, hC2, hM2, hl2⟩; have hY2 := hY1.mut hM2; have y1 := hY2.cell (o := 1) rfl; have y2 := hY2.cell (o := 2) rfl; have y3 := hY2.cell (o := 3) rfl)
              | (go_at_call 68; refine (report_l hC2 _ _ _ (by omega)).mono ?_; rintro e w3 ⟨rfl, hC3, hM3, hl3⟩))
            have hfin : Chk K w3 b (s.add (dataG 0 (K.p.globals.take (k + 1)))) := hC3.mk2 (by rw [HDS.out, CkS.add_app, HST.out, HR.out]; simp only [CkS.add_app, Bool.not_false, Bool.true_and]; first | rfl | simp [rep, CkS.add_nil])
            have hmm : CMut b w w3 := ((((hMZ.trans hM1).trans hM2)).trans hM3)
            go_roundw
            case rel => first | exact ⟨k + 1, by omega, by go_num, by rw [HSW.out, HG.out]; go_num, by rw [HSW.out, HG.out]; rw [decide_eq_true (by omega)], hfin, hmm⟩ | ((repeat apply Exists.intro); exact ⟨⟨k + 1, by omega, by go_num, by rw [HSW.out, HG.out]; go_num, by rw [HSW.out, HG.out]; rw [decide_eq_true (by omega)], hfin, hmm⟩, rfl⟩)
            case measure => simp [intOf]; omega
          · rw [show decide (wd ≤ 512 ∧ 512 < wd + 1) = false from decide_eq_false (by omega)] at hR
            have HIN := Lib.hid hin
            have HR := Lib.hid hR
            have HG := Lib.hid hg
            clear hin hR hg hv
            go_wp2_with (first
              | (go_at_call 73; refine (HIN.out _).mono ?_; rintro e w9 ⟨rfl, rfl⟩)
              | (go_at_call 68; refine (report_l hCZ _ _ _ (by omega)).mono ?_; rintro e w1 ⟨rfl, hC1, hM1, hl1⟩; have hY1 := hY.mut hM1; have y1 := hY1.cell (o := 1) rfl; have y2 := hY1.cell (o := 2) rfl; have y3 := hY1.cell (o := 3) rfl)
              | (go_at_call 68; refine (report_l hC1 _ _ _ (by omega)).mono ?_; rintro e w2 ⟨rfl, hC2, hM2, hl2⟩; have hY2 := hY1.mut hM2; have y1 := hY2.cell (o := 1) rfl; have y2 := hY2.cell (o := 2) rfl; have y3 := hY2.cell (o := 3) rfl)
              | (go_at_call 68; refine (report_l hC2 _ _ _ (by omega)).mono ?_; rintro e w3 ⟨rfl, hC3, hM3, hl3⟩))
            have hfin : Chk K w2 b (s.add (dataG 0 (K.p.globals.take (k + 1)))) := hC2.mk2 (by rw [HDS.out, CkS.add_app, HST.out, HR.out]; simp only [CkS.add_app, Bool.not_false, Bool.true_and]; first | rfl | simp [rep, CkS.add_nil])
            have hmm : CMut b w w2 := (((hMZ.trans hM1).trans hM2))
            go_roundw
            case rel => first | exact ⟨k + 1, by omega, by go_num, by rw [HSW.out, HG.out]; go_num, by rw [HSW.out, HG.out]; rw [decide_eq_false (by omega)], hfin, hmm⟩ | ((repeat apply Exists.intro); exact ⟨⟨k + 1, by omega, by go_num, by rw [HSW.out, HG.out]; go_num, by rw [HSW.out, HG.out]; rw [decide_eq_false (by omega)], hfin, hmm⟩, rfl⟩)
            case measure => simp [intOf]; omega
      · rw [hv, hz, hg] at hR
        rw [hv] at hin
        skip
        by_cases hwd : 512 < wd
        · have hd : decide (512 < wd) = true := decide_eq_true hwd
          rw [hd]
          rw [show decide (wd ≤ 512 ∧ 512 < wd + x.len) = false from decide_eq_false (by omega)] at hR
          have HIN := Lib.hid hin
          have HR := Lib.hid hR
          have HG := Lib.hid hg
          clear hin hR hg hv
          go_wp2_with (first
            | (go_at_call 73; refine (HIN.out _).mono ?_; rintro e w9 ⟨rfl, rfl⟩)
            | (go_at_call 68; refine (report_l hCZ _ _ _ (by omega)).mono ?_; rintro e w1 ⟨rfl, hC1, hM1, hl1⟩; have hY1 := hY.mut hM1; have y1 := hY1.cell (o := 1) rfl; have y2 := hY1.cell (o := 2) rfl; have y3 := hY1.cell (o := 3) rfl)
            | (go_at_call 68; refine (report_l hC1 _ _ _ (by omega)).mono ?_; rintro e w2 ⟨rfl, hC2, hM2, hl2⟩; have hY2 := hY1.mut hM2; have y1 := hY2.cell (o := 1) rfl; have y2 := hY2.cell (o := 2) rfl; have y3 := hY2.cell (o := 3) rfl)
            | (go_at_call 68; refine (report_l hC2 _ _ _ (by omega)).mono ?_; rintro e w3 ⟨rfl, hC3, hM3, hl3⟩))
          have hfin : Chk K w2 b (s.add (dataG 0 (K.p.globals.take (k + 1)))) := hC2.mk2 (by rw [HDS.out, CkS.add_app, HST.out, HR.out]; simp only [CkS.add_app, Bool.not_false, Bool.true_and]; first | rfl | simp [rep, CkS.add_nil])
          have hmm : CMut b w w2 := (((hMZ.trans hM1).trans hM2))
          go_roundw
          case rel => first | exact ⟨k + 1, by omega, by go_num, by rw [HSW.out, HG.out]; go_num, by rw [HSW.out, HG.out]; rw [decide_eq_true (by omega)], hfin, hmm⟩ | ((repeat apply Exists.intro); exact ⟨⟨k + 1, by omega, by go_num, by rw [HSW.out, HG.out]; go_num, by rw [HSW.out, HG.out]; rw [decide_eq_true (by omega)], hfin, hmm⟩, rfl⟩)
          case measure => simp [intOf]; omega
        · have hd : decide (512 < wd) = false := decide_eq_false hwd
          rw [hd]
          by_cases hov : 512 < wd + x.len
          · rw [show decide (wd ≤ 512 ∧ 512 < wd + x.len) = true from decide_eq_true (by omega)] at hR
            have HIN := Lib.hid hin
            have HR := Lib.hid hR
            have HG := Lib.hid hg
            clear hin hR hg hv
            go_wp2_with (first
              | (go_at_call 73; refine (HIN.out _).mono ?_; rintro e w9 ⟨rfl, rfl⟩)
              | (go_at_call 68; refine (report_l hCZ _ _ _ (by omega)).mono ?_; rintro e w1 ⟨rfl, hC1, hM1, hl1⟩; have hY1 := hY.mut hM1; have y1 := hY1.cell (o := 1) rfl; have y2 := hY1.cell (o := 2) rfl; have y3 := hY1.cell (o := 3) rfl)
              | (go_at_call 68; refine (report_l hC1 _ _ _ (by omega)).mono ?_; rintro e w2 ⟨rfl, hC2, hM2, hl2⟩; have hY2 := hY1.mut hM2; have y1 := hY2.cell (o := 1) rfl; have y2 := hY2.cell (o := 2) rfl; have y3 := hY2.cell (o := 3) rfl)
              | (go_at_call 68; refine (report_l hC2 _ _ _ (by omega)).mono ?_; rintro e w3 ⟨rfl, hC3, hM3, hl3⟩))
            have hfin : Chk K w3 b (s.add (dataG 0 (K.p.globals.take (k + 1)))) := hC3.mk2 (by rw [HDS.out, CkS.add_app, HST.out, HR.out]; simp only [CkS.add_app, Bool.not_false, Bool.true_and]; first | rfl | simp [rep, CkS.add_nil])
            have hmm : CMut b w w3 := ((((hMZ.trans hM1).trans hM2)).trans hM3)
            go_roundw
            case rel => first | exact ⟨k + 1, by omega, by go_num, by rw [HSW.out, HG.out]; go_num, by rw [HSW.out, HG.out]; rw [decide_eq_true (by omega)], hfin, hmm⟩ | ((repeat apply Exists.intro); exact ⟨⟨k + 1, by omega, by go_num, by rw [HSW.out, HG.out]; go_num, by rw [HSW.out, HG.out]; rw [decide_eq_true (by omega)], hfin, hmm⟩, rfl⟩)
            case measure => simp [intOf]; omega
          · rw [show decide (wd ≤ 512 ∧ 512 < wd + x.len) = false from decide_eq_false (by omega)] at hR
            have HIN := Lib.hid hin
            have HR := Lib.hid hR
            have HG := Lib.hid hg
            clear hin hR hg hv
            go_wp2_with (first
              | (go_at_call 73; refine (HIN.out _).mono ?_; rintro e w9 ⟨rfl, rfl⟩)
              | (go_at_call 68; refine (report_l hCZ _ _ _ (by omega)).mono ?_; rintro e w1 ⟨rfl, hC1, hM1, hl1⟩; have hY1 := hY.mut hM1; have y1 := hY1.cell (o := 1) rfl; have y2 := hY1.cell (o := 2) rfl; have y3 := hY1.cell (o := 3) rfl)
              | (go_at_call 68; refine (report_l hC1 _ _ _ (by omega)).mono ?_; rintro e w2 ⟨rfl, hC2, hM2, hl2⟩; have hY2 := hY1.mut hM2; have y1 := hY2.cell (o := 1) rfl; have y2 := hY2.cell (o := 2) rfl; have y3 := hY2.cell (o := 3) rfl)
              | (go_at_call 68; refine (report_l hC2 _ _ _ (by omega)).mono ?_; rintro e w3 ⟨rfl, hC3, hM3, hl3⟩))
            have hfin : Chk K w2 b (s.add (dataG 0 (K.p.globals.take (k + 1)))) := hC2.mk2 (by rw [HDS.out, CkS.add_app, HST.out, HR.out]; simp only [CkS.add_app, Bool.not_false, Bool.true_and]; first | rfl | simp [rep, CkS.add_nil])
            have hmm : CMut b w w2 := (((hMZ.trans hM1).trans hM2))
            go_roundw
            case rel => first | exact ⟨k + 1, by omega, by go_num, by rw [HSW.out, HG.out]; go_num, by rw [HSW.out, HG.out]; rw [decide_eq_false (by omega)], hfin, hmm⟩ | ((repeat apply Exists.intro); exact ⟨⟨k + 1, by omega, by go_num, by rw [HSW.out, HG.out]; go_num, by rw [HSW.out, HG.out]; rw [decide_eq_false (by omega)], hfin, hmm⟩, rfl⟩)
            case measure => simp [intOf]; omega
    · have hk2 : k = K.p.globals.length := by omega
      subst hk2
      generalize decide (512 < sumW (List.take K.p.globals.length K.p.globals)) = sf
      generalize sumW (List.take K.p.globals.length K.p.globals) = sw
      rw [List.take_length] at hC
      obtain ⟨vl', vs', hk'⟩ := hC.ck
      have c4 := hk'.cell (o := 4) rfl
      rw [e4] at c4
      clear hk' c1
      go_wp2_with fail
      go_loopw [63] (fun i w2 => ∃ j : Nat, j ≤ K.p.channels.length ∧ i = .int .i64 j ∧ Chk K w2 b (s.add (dataG 0 K.p.globals ++ chanR (K.p.channels.take j))) ∧ CMut b w w2) (fun i _ => K.p.channels.length - (intOf i).toNat)
      case atStart => exact ⟨0, Nat.zero_le _, rfl, hC.mk2 (by simp [chanR]), hM⟩
      case round =>
        obtain ⟨j, hjl, rfl, hC, hM⟩ := hrel
        rename World => w2
        have hdl := CkS.add_len s (dataG 0 K.p.globals ++ chanR (K.p.channels.take j))
        have hdg := dataG_len K.p.globals 0
        have hdh := chanR_len (K.p.channels.take j)
        rw [List.length_append] at hdl
        rw [List.length_take, Nat.min_eq_left hjl] at hdh
        by_cases hlt : j < K.p.channels.length
        · obtain ⟨x, bg, off, hx, rfl, hb, c0, c1, c2⟩ := ChansAt.at (SliceAt.lift hch (h.keep hM)) hlt
          have hds := chanR_snoc (K.p.channels.take j) x
          rw [← take_snoc hx] at hds
          have HDS := Lib.hid hds
          clear hds hx
          generalize hst : s.add (dataG 0 K.p.globals ++ chanR (K.p.channels.take j)) = st at hC hdl ⊢
          have HST := Lib.hid hst
          clear hst
          have hl0 : st.out.length ≤ 1000000 := by omega
          go_upto_region 16 with fail
          have hZ := (Below.refl w2.heap.size w2).alloc (Nat.le_refl _) (.cells #[.string x.name, .int .i64 x.cap, .int .i64 x.pos] 97)
          have hY := hC.loc #[.string x.name, .int .i64 x.cap, .int .i64 x.pos] 97
          generalize w2.alloc (.cells #[.string x.name, .int .i64 x.cap, .int .i64 x.pos] 97) = Z at hY hZ ⊢
          have hCZ := hC.later hZ
          have hMZ := hM.trans (hC.mutOf hZ)
          have y1 := hY.cell (o := 1) rfl
          have y2 := hY.cell (o := 2) rfl
          clear c0 c1 c2
          go_still_tail 7, mixed
          still_call (within_any _ _ _ _)
          repeat still_step
          refine wpStill_nil ?_
          have hCD := hCZ.later ((Below.refl Z.heap.size Z).drew)
          have hMD := hMZ.trans (hCZ.mutOf ((Below.refl Z.heap.size Z).drew))
          change wpList _ _ _ _ _ Z.drew
          go_wp2_with (go_at_call 68; refine (report_l hCD _ _ _ hl0).mono ?_; rintro e w3 ⟨rfl, hC3, hM3, hl3⟩)
          have hfin : Chk K w3 b (s.add (dataG 0 K.p.globals ++ chanR (K.p.channels.take (j + 1)))) := hC3.mk2 (by rw [HDS.out, ← List.append_assoc, CkS.add_app s _ (rep _ _ _), HST.out, Bool.decide_and, Bool.not_and])
          have hmm := hMD.trans hM3
          go_roundw
          case rel => first | exact ⟨j + 1, by omega, by go_num, hfin, hmm⟩ | ((repeat apply Exists.intro); exact ⟨⟨j + 1, by omega, by go_num, hfin, hmm⟩, rfl⟩)
          case measure => simp [intOf]; omega
        · have hk2 : j = K.p.channels.length := by omega
          subst hk2
          rw [List.take_length] at hC
          go_wp2_with fail
          go_end0
          exact ⟨rfl, hC, hM⟩
end Go.Proofs.YtkfdnlfkomhmfaaGreatDoor
