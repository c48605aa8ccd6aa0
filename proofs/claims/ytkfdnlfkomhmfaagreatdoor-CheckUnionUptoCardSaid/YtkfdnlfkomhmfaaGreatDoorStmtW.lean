/- Well-formed statements: the program's wellFormedStmts. -/
import Derived.Test.YtkfdnlfkomhmfaaGreatDoorExprOK
import Derived.Test.YtkfdnlfkomhmfaaGreatDoorSize2
import Derived.Deep.DeepCutAuto
namespace Go.Proofs.YtkfdnlfkomhmfaaGreatDoor
open Go.RowKit
set_option linter.unusedVariables false
set_option linter.unusedSimpArgs false

def sName (k : Int) : Bool := decide (k = 1 ∨ k = 2 ∨ k = 3 ∨ k = 7 ∨ k = 9)
def sN (k : Int) : Bool := decide (k = 5 ∨ k = 10 ∨ k = 11)
def sBody (k : Int) : Bool := decide (k = 4 ∨ k = 5 ∨ k = 6 ∨ k = 10 ∨ k = 11)
def sEls (k : Int) : Bool := decide (k = 4)
def sArgs (k : Int) : Int := if k = 3 then 2 else if k = 1 ∨ k = 2 ∨ k = 4 ∨ k = 6 ∨ k = 7 ∨ k = 8 ∨ k = 9 then 1 else 0
def num (n : Int) : Bool := decide (0 ≤ n ∧ n ≤ 32767)
def nmB (s : Stmt) : Bool := if sName s.kind then ident s.name else decide (s.name = emp)
def nB (s : Stmt) : Bool := if sN s.kind then num s.n else decide (s.n = 0)
def lsB (s : Stmt) : Bool := (sBody s.kind || decide (s.body.length = 0)) && (sEls s.kind || decide (s.els.length = 0))
def stmtHead (s : Stmt) : Bool := decide (1 ≤ s.kind ∧ s.kind ≤ 13) && nmB s && nB s && lsB s && decide ((s.args.length : Int) = sArgs s.kind)
mutual
def stmtOk : Stmt → Bool
  | ⟨kind, name, n, args, body, els, pos⟩ => stmtHead ⟨kind, name, n, args, body, els, pos⟩ && exprsOk args && stmtsOk body && stmtsOk els
def stmtsOk : List Stmt → Bool
  | [] => true
  | x :: l => stmtOk x && stmtsOk l
end
theorem stmtOk_eq (s : Stmt) : stmtOk s = (stmtHead s && exprsOk s.args && stmtsOk s.body && stmtsOk s.els) := by cases s; simp [stmtOk]
theorem stmtsOk_all (l : List Stmt) : stmtsOk l = l.all stmtOk := by
  induction l with
  | nil => rfl
  | cons x l ih => simp [stmtsOk, ih]
theorem stmtsOk_any (l : List Stmt) : stmtsOk l = !(l.any fun x => !stmtOk x) := by
  rw [stmtsOk_all]
  induction l with
  | nil => rfl
  | cons x l ih => simp [ih]
theorem mem_ssz {l : List Stmt} {x : Stmt} (h : x ∈ l) : ssz x ≤ sszs l := by
  induction l with
  | nil => cases h
  | cons y l ih =>
    rcases List.mem_cons.1 h with rfl | h
    · simp [sszs]
    · have := ih h; simp [sszs]; omega

/-- the table of the statements' shapes lies as its text lays it -/
def StmtTab (w : World) : Prop := ∀ k : Nat, 1 ≤ k → k ≤ 13 → w.cell? ⟨0, k * 5, none⟩ = some (.bool (sName k)) ∧ w.cell? ⟨0, k * 5 + 1, none⟩ = some (.bool (sN k)) ∧
  w.cell? ⟨0, k * 5 + 2, none⟩ = some (.bool (sBody k)) ∧ w.cell? ⟨0, k * 5 + 3, none⟩ = some (.bool (sEls k)) ∧ w.cell? ⟨0, k * 5 + 4, none⟩ = some (.int .i64 (sArgs k))
structure Tabs (w : World) : Prop where
  sp : SpaceTab w
  st : StmtTab w
theorem cell_lt {w : World} {a : Addr} {v : Value} (h : w.cell? a = some v) : a.block < w.heap.size := by
  unfold World.cell? at h
  cases ho : w.heap[a.block]? with
  | none => simp [ho] at h
  | some o => exact (Array.getElem?_eq_some_iff.1 ho).1
theorem cell_later {w w' : World} {a : Addr} {v : Value} (h : w.cell? a = some v) (hb : Below w.heap.size w w') : w'.cell? a = some v := by rw [hb.cell (cell_lt h)]; exact h
theorem Tabs.later {w w' : World} (h : Tabs w) (hb : Below w.heap.size w w') : Tabs w' :=
  ⟨h.sp.later hb, fun k h1 h2 => by obtain ⟨a, b, c, d, e⟩ := h.st k h1 h2; exact ⟨cell_later a hb, cell_later b hb, cell_later c hb, cell_later d hb, cell_later e hb⟩⟩

theorem number_any (n : Int) (w : World) : Calls Tryz.prog 60 #[.int .i64 n] w fun e w' => e = .returned (.bool (num n)) ∧ w' = w := by
  by_cases h : 0 ≤ n
  all_goals go_enter Tryz.func60, Tryz.ntmps60
  all_goals go_wp2
  all_goals go_ret
  all_goals exact ⟨ret_bool (by simp [num, h]; try omega), rfl⟩
theorem signed_any (n : Int) (w : World) : Calls Tryz.prog 59 #[.int .i16 n] w fun e w' => e = .returned (.bool (decide (-32767 ≤ n))) ∧ w' = w := by
  go_enter Tryz.func59, Tryz.ntmps59
  go_wp2
  go_ret
  exact ⟨rfl, rfl⟩
theorem rnumber_any (n m : Int) (w : World) : Calls Tryz.prog 85 #[.int .i64 n, .int .i64 m] w fun e w' => e = .returned (.bool (decide (m ≤ n ∧ n ≤ 32767))) ∧ w' = w := by
  by_cases h : m ≤ n
  all_goals go_enter Tryz.func85, Tryz.ntmps85
  all_goals go_wp2
  all_goals go_ret
  all_goals exact ⟨ret_bool (by simp [h]; try omega), rfl⟩

set_option maxRecDepth 100000 in
set_option maxHeartbeats 4000000 in
theorem stmtLit_any (s : Stmt) (va vb ve : Value) (N : Nat) (w : World) (hwf : s.Wf) (hA : ExprsAt N w va s.args) (hBo : StmtsAt N w vb s.body) (hEl : StmtsAt N w ve s.els) (hN : N ≤ w.heap.size) (hT : Tabs w)
    (hb : ∀ W, Below w.heap.size w W → StmtsAt N W vb s.body → Calls Tryz.prog 109 #[vb] W fun e w' => e = .returned (.bool (stmtsOk s.body)) ∧ Below W.heap.size W w')
    (he : ∀ W, Below w.heap.size w W → StmtsAt N W ve s.els → Calls Tryz.prog 109 #[ve] W fun e w' => e = .returned (.bool (stmtsOk s.els)) ∧ Below W.heap.size W w') :
    Calls Tryz.prog 141 #[.agg #[.int .i64 s.kind, .string s.name, .int .i64 s.n, va, vb, ve, .int .i64 s.pos]] w fun e w' => e = .returned (.bool (!stmtOk s)) ∧ Below w.heap.size w w' := by
  obtain ⟨oa, ca, rfl, _, _, _⟩ := hA.slice
  obtain ⟨ob, cb, rfl, _, _, _⟩ := hBo.slice
  obtain ⟨oe, ce, rfl, _, _, _⟩ := hEl.slice
  have HE := Lib.hid (stmtOk_eq s)
  have HT := Lib.hid hT
  have HB := Lib.hid hb
  have HEl := Lib.hid he
  have hst := Lib.hid hwf.2.1
  clear hT hb he
  by_cases hk : 1 ≤ s.kind ∧ s.kind ≤ 13
  case neg =>
    have hf : stmtOk s = false := by rw [HE.out]; simp only [stmtHead, decide_eq_false hk]; rfl
    have HF := Lib.hid hf
    clear hf
    have hk' : s.kind < 1 ∨ 13 < s.kind := by omega
    clear hk
    rcases hk' with hk' | hk'
    all_goals
      go_enter Tryz.func141, Tryz.ntmps141
      go_wp2_with fail
      go_ret
      exact ⟨ret_bool (by rw [HF.out]; rfl), by go_grown⟩
  case pos =>
    obtain ⟨hk1, hk2⟩ := hk
    obtain ⟨t0, t1, t2, t3, t4⟩ := HT.out.st s.kind.toNat (by omega) (by omega)
    rw [Int.toNat_of_nonneg (show 0 ≤ s.kind by omega)] at t0 t1 t2 t3 t4
    have hz0 : 0 < w.heap.size := cell_lt t0
    go_enter Tryz.func141, Tryz.ntmps141
    go_upto_region 4 with fail
    have d0 : ((w.alloc (.cells #[.int .i64 s.kind, .string s.name, .int .i64 s.n, .slice oa s.args.length ca, .slice ob s.body.length cb, .slice oe s.els.length ce, .int .i64 s.pos] 44)).alloc (.cells #[.bool (sName s.kind), .bool (sN s.kind), .bool (sBody s.kind), .bool (sEls s.kind), .int .i64 (sArgs s.kind)] 176)).cell? ⟨w.heap.size, 0, none⟩ = some (.int .i64 s.kind) := cell_past (cell_first rfl) (by simp)
    have hWB := (Below.refl w.heap.size w).alloc (Nat.le_refl _) (.cells #[.int .i64 s.kind, .string s.name, .int .i64 s.n, .slice oa s.args.length ca, .slice ob s.body.length cb, .slice oe s.els.length ce, .int .i64 s.pos] 44)
    have hWB2 := hWB.alloc (by simp) (.cells #[.bool (sName s.kind), .bool (sN s.kind), .bool (sBody s.kind), .bool (sEls s.kind), .int .i64 (sArgs s.kind)] 176)
    have ge : ∀ (A : Obj) (C : Array Value) (t : TypeId) (j : Nat) (v : Value), C[j]? = some v → ((w.alloc A).alloc (.cells C t)).cell? ⟨w.heap.size + 1, j, none⟩ = some v := fun A C t j v h => by
      have := cell_first (w := w.alloc A) (t := t) h
      simpa using this
    have d1 := d0
    generalize hWW : ((w.alloc (.cells #[.int .i64 s.kind, .string s.name, .int .i64 s.n, .slice oa s.args.length ca, .slice ob s.body.length cb, .slice oe s.els.length ce, .int .i64 s.pos] 44)).alloc (.cells #[.bool (sName s.kind), .bool (sN s.kind), .bool (sBody s.kind), .bool (sEls s.kind), .int .i64 (sArgs s.kind)] 176)) = W at hWB2 d0 ⊢
    clear d1 hWB t0 t1 t2 t3 t4
    replace d1 : W.cell? ⟨w.heap.size, 1, none⟩ = some (.string s.name) := by rw [← hWW]; exact cell_past (cell_first rfl) (by simp)
    have d2 : W.cell? ⟨w.heap.size, 2, none⟩ = some (.int .i64 s.n) := by rw [← hWW]; exact cell_past (cell_first rfl) (by simp)
    have d3 : W.cell? ⟨w.heap.size, 3, none⟩ = some (.slice oa s.args.length ca) := by rw [← hWW]; exact cell_past (cell_first rfl) (by simp)
    have d4 : W.cell? ⟨w.heap.size, 4, none⟩ = some (.slice ob s.body.length cb) := by rw [← hWW]; exact cell_past (cell_first rfl) (by simp)
    have d5 : W.cell? ⟨w.heap.size, 5, none⟩ = some (.slice oe s.els.length ce) := by rw [← hWW]; exact cell_past (cell_first rfl) (by simp)
    have f0 : W.cell? ⟨w.heap.size + 1, 0, none⟩ = some (.bool (sName s.kind)) := by rw [← hWW]; exact ge _ _ _ _ _ rfl
    have f1 : W.cell? ⟨w.heap.size + 1, 1, none⟩ = some (.bool (sN s.kind)) := by rw [← hWW]; exact ge _ _ _ _ _ rfl
    have f2 : W.cell? ⟨w.heap.size + 1, 2, none⟩ = some (.bool (sBody s.kind)) := by rw [← hWW]; exact ge _ _ _ _ _ rfl
    have f3 : W.cell? ⟨w.heap.size + 1, 3, none⟩ = some (.bool (sEls s.kind)) := by rw [← hWW]; exact ge _ _ _ _ _ rfl
    have f4 : W.cell? ⟨w.heap.size + 1, 4, none⟩ = some (.int .i64 (sArgs s.kind)) := by rw [← hWW]; exact ge _ _ _ _ _ rfl
    have hlW : w.heap.size + 1 < W.heap.size := by rw [← hWW]; simp
    clear ge hWW
    have HTW := Lib.hid (HT.out.sp.later hWB2)
    go_cut [4] (fun s4 wx => s4 = .bool (nmB s) ∧ Below W.heap.size W wx)
    case first =>
      cases hsn : sName s.kind
      · rw [hsn] at f0
        by_cases hem : s.name = emp
        · have hz := hem
          have hr : nmB s = true := by simp [nmB, hsn, hem]
          have HR := Lib.hid hr
          have hzz : s.name.toList.isEmpty = true := by rw [hem, ByteArray.toList_eq]; rfl
          clear hr hsn hem hz
          go_wp2_with fail
          go_meet
          exact ⟨congrArg Value.bool HR.out.symm, Below.refl _ _⟩
        · have hr : nmB s = false := by simp [nmB, hsn, hem]
          have HR := Lib.hid hr
          have hzz : s.name.toList.isEmpty = false := ba_nonempty hem
          clear hr hsn hem
          go_wp2_with fail
          go_meet
          exact ⟨congrArg Value.bool HR.out.symm, Below.refl _ _⟩
      · rw [hsn] at f0
        have hc := identifier_any s.name W hst.out HTW.out
        have hr : nmB s = ident s.name := by simp [nmB, hsn]
        cases hid : ident s.name
        all_goals
          rw [hid] at hc hr
          have HR := Lib.hid hr
          clear hr hsn hid
          go_wp2_with (go_at_call 58; refine hc.mono ?_; rintro e w3 ⟨rfl, hB3⟩; clear hc; obtain ⟨hcl, hfr⟩ := bcell hB3)
          go_meet
          exact ⟨congrArg Value.bool HR.out.symm, hB3⟩
    case rest =>
      obtain ⟨rfl, hB1⟩ := hcut
      have e2 := cell_later d2 hB1
      have e3 := cell_later d3 hB1
      have e4 := cell_later d4 hB1
      have e5 := cell_later d5 hB1
      have x1 := cell_later f1 hB1
      have x2 := cell_later f2 hB1
      have x3 := cell_later f3 hB1
      have x4 := cell_later f4 hB1
      have hBw : Below w.heap.size w wc := hWB2.trans (hB1.mono hWB2.size)
      clear d0 d1 d2 d3 d4 d5 f0 f1 f2 f3 f4
      go_upto_region 5 with fail
      go_cut [5] (fun s5 wx => s5 = .bool (nB s) ∧ wx = wc)
      case first =>
        cases hsn : sN s.kind
        · rw [hsn] at x1
          have hr : nB s = (s.n == 0) := by simp [nB, hsn]; rfl
          have HR := Lib.hid hr
          clear hr hsn
          go_wp2_with fail
          go_meet
          exact ⟨congrArg Value.bool HR.out.symm, rfl⟩
        · rw [hsn] at x1
          have hr : nB s = num s.n := by simp [nB, hsn]
          have hc := number_any s.n wc
          cases hid : num s.n
          · rw [hid] at hc hr
            have hn0 : s.n ≠ 0 := by intro h; rw [h] at hid; exact absurd hid (by decide)
            have HR := Lib.hid hr
            have hz : (s.n == 0) = false := beq_eq_false_iff_ne.2 hn0
            clear hr hsn hid hn0
            go_wp2_with (go_at_call 60; refine hc.mono ?_; rintro e w3 ⟨rfl, rfl⟩; clear hc)
            go_meet
            exact ⟨congrArg Value.bool HR.out.symm, rfl⟩
          · rw [hid] at hc hr
            have HR := Lib.hid hr
            clear hr hsn hid
            go_wp2_with (go_at_call 60; refine hc.mono ?_; rintro e w3 ⟨rfl, rfl⟩; clear hc)
            go_meet
            exact ⟨congrArg Value.bool HR.out.symm, rfl⟩
      case rest =>
        obtain ⟨rfl, rfl⟩ := hcut
        go_upto_region 6 with fail
        go_cut [6] (fun s6 wx => s6 = .bool (lsB s) ∧ wx = wc)
        case first =>
          have hr : lsB s = ((sBody s.kind || ((s.body.length : Int) == 0)) && (sEls s.kind || ((s.els.length : Int) == 0))) := by
            unfold lsB
            congr 1
            · congr 1; rw [Bool.eq_iff_iff]; simp
            · congr 1; rw [Bool.eq_iff_iff]; simp
          cases hsb : sBody s.kind <;> cases hse : sEls s.kind <;> cases hlb : ((s.body.length : Int) == 0) <;> cases hle : ((s.els.length : Int) == 0)
          all_goals
            rw [hsb, hse, hlb, hle] at hr
            rw [hsb] at x2
            rw [hse] at x3
            have HR := Lib.hid hr
            clear hr hsb hse
            go_wp2_with fail
            go_meet
            exact ⟨congrArg Value.bool HR.out.symm, rfl⟩
        case rest =>
          obtain ⟨rfl, rfl⟩ := hcut
          cases hnm : nmB s
          case false =>
            have hf : stmtOk s = false := by rw [HE.out]; simp [stmtHead, hnm]
            have HF := Lib.hid hf
            clear hf
            go_wp2_with fail
            go_ret
            exact ⟨ret_bool (by rw [HF.out]; rfl), hBw⟩
          case true =>
          cases hnb : nB s
          case false =>
            have hf : stmtOk s = false := by rw [HE.out]; simp [stmtHead, hnb]
            have HF := Lib.hid hf
            clear hf
            go_wp2_with fail
            go_ret
            exact ⟨ret_bool (by rw [HF.out]; rfl), hBw⟩
          case true =>
          cases hls : lsB s
          case false =>
            have hf : stmtOk s = false := by rw [HE.out]; simp [stmtHead, hls]
            have HF := Lib.hid hf
            clear hf
            go_wp2_with fail
            go_ret
            exact ⟨ret_bool (by rw [HF.out]; rfl), hBw⟩
          case true =>
          by_cases hla : (s.args.length : Int) = sArgs s.kind
          case neg =>
            have hlz : ((s.args.length : Int) != sArgs s.kind) = true := bne_iff_ne.2 hla
            have hf : stmtOk s = false := by rw [HE.out]; simp [stmtHead, hla]
            have HF := Lib.hid hf
            clear hf hla
            go_wp2_with fail
            go_ret
            exact ⟨ret_bool (by rw [HF.out]; rfl), hBw⟩
          case pos =>
          have hlz : ((s.args.length : Int) != sArgs s.kind) = false := bne_eq_false_iff_eq.2 hla
          have hok : stmtOk s = (exprsOk s.args && stmtsOk s.body && stmtsOk s.els) := by rw [HE.out]; simp [stmtHead, hnm, hnb, hls, hla, hk1, hk2]
          have HOK := Lib.hid hok
          have HLA := Lib.hid hla
          clear hok hla
          have eg : ∀ args w, (callFunc 143 args).run Tryz.prog w = .ok (.enter 143 args) w := enters_of Tryz.func143 (by kernel_rfl) rfl
          have hP : PredE 143 #[] N wc s.args (fun y => !exprOk y) := by
            intro y vy W' hy hywf hBW hyA
            obtain ⟨oy, cy, rfl, _, _, _⟩ := hyA.slice
            have hTW := (HTW.out.later hB1).later hBW
            have H1 := Lib.hid hTW
            have hs1 := hBW.size
            have hs2 := hBw.size
            clear hTW e2 e3 e4 e5 x1 x2 x3 x4
            go_enter Tryz.func143, Tryz.ntmps143
            go_wp2_with (go_at_call 144; refine (wellFormed_any _ y _ N _ (Nat.lt_succ_self _) hywf (hyA.kept (fun b hb => Below.heap_alloc _ _ _ (by omega))) (by simp; omega) (H1.out.later (by go_grown))).mono ?_; rintro e w1 ⟨rfl, hB1⟩)
            go_ret
            exact ⟨rfl, Below.after hB1⟩
          have hc5 := ContainsFuncE_any _ #[] eg N _ _ _ wc (hA.lift (hBw.mono hN)) (by have := hBw.size; omega) hP
          clear hP
          cases hex : (s.args.any fun y => !exprOk y)
          case true =>
            have hf : stmtOk s = false := by rw [HOK.out, exprsOk_any, hex]; rfl
            rw [hex] at hc5
            have HF := Lib.hid hf
            have HC5 := Lib.hid hc5
            clear hf hex hc5
            go_wp2_with (go_at_call 142; refine HC5.out.mono ?_; rintro e w5 ⟨rfl, hB5⟩)
            go_ret
            exact ⟨ret_bool (by rw [HF.out]; rfl), hBw.trans (hB5.mono hBw.size)⟩
          case false =>
          have hxo : exprsOk s.args = true := by rw [exprsOk_any, hex]; rfl
          rw [hex] at hc5
          have HC5 := Lib.hid hc5
          have HXO := Lib.hid hxo
          clear hc5 hex hxo
          cases hbo : stmtsOk s.body
          case false =>
            have hf : stmtOk s = false := by rw [HOK.out, hbo]; simp
            rw [hbo] at HB
            have HF := Lib.hid hf
            clear hf hbo
            go_wp2_with (first
              | (go_at_call 142; refine HC5.out.mono ?_; rintro e w5 ⟨rfl, hB5⟩; have hBt5 := hBw.trans (hB5.mono hBw.size); obtain ⟨hcl, hfr⟩ := bcell hB5; have hl1 := cell_lt e4)
              | (go_at_call 109; refine (HB.out _ hBt5 (hBo.lift (hBt5.mono hN))).mono ?_; rintro e w6 ⟨rfl, hB6⟩))
            go_ret
            exact ⟨ret_bool (by rw [HF.out]; rfl), hBt5.trans (hB6.mono hBt5.size)⟩
          case true =>
          rw [hbo] at HB
          have HBO := Lib.hid hbo
          clear hbo
          have hfin : (!stmtOk s) = !stmtsOk s.els := by rw [HOK.out, HXO.out, HBO.out]; rfl
          have HFIN := Lib.hid hfin
          clear hfin
          go_wp2_with (first
            | (go_at_call 142; refine HC5.out.mono ?_; rintro e w5 ⟨rfl, hB5⟩; have hBt5 := hBw.trans (hB5.mono hBw.size); obtain ⟨hcl, hfr⟩ := bcell hB5; have hl1 := cell_lt e4)
            | (go_at_call 109; refine (HEl.out _ hBt6 (hEl.lift (hBt6.mono hN))).mono ?_; rintro e w7 ⟨rfl, hB7⟩)
            | (go_at_call 109; refine (HB.out _ hBt5 (hBo.lift (hBt5.mono hN))).mono ?_; rintro e w6 ⟨rfl, hB6⟩; have hBt6 := hBt5.trans (hB6.mono hBt5.size); have k5 := cell_later (cell_later e5 hB5) hB6))
          go_ret
          exact ⟨ret_bool HFIN.out.symm, hBt6.trans (hB7.mono hBt6.size)⟩

theorem wellFormedStmts_any (m : Nat) : ∀ (l : List Stmt) (v : Value) (N : Nat) (w : World), sszs l < m → StmtsAt N w v l → N ≤ w.heap.size → Tabs w →
    Calls Tryz.prog 109 #[v] w fun e w' => e = .returned (.bool (stmtsOk l)) ∧ Below w.heap.size w w' := by
  induction m with
  | zero => intro l v N w hx; omega
  | succ m ih =>
    intro l v N w hx hA hN hT
    have eg : ∀ args w, (callFunc 141 args).run Tryz.prog w = .ok (.enter 141 args) w := enters_of Tryz.func141 (by kernel_rfl) rfl
    have hP : PredS 141 #[] N w l (fun s => !stmtOk s) := by
      intro s va vb ve W hs hwf hBW hA1 hA2 hA3
      have hm := mem_ssz hs
      have he := ssz_eq s
      have hTW := hT.later hBW
      exact stmtLit_any s va vb ve N W hwf hA1 hA2 hA3 (by have := hBW.size; omega) hTW
        (fun W' hW' hS => ih s.body vb N W' (by omega) hS (by have := hBW.size; have := hW'.size; omega) (hTW.later hW'))
        (fun W' hW' hS => ih s.els ve N W' (by omega) hS (by have := hBW.size; have := hW'.size; omega) (hTW.later hW'))
    have hc := ContainsFuncS_any _ #[] eg N v l _ w hA hN hP
    have HC := Lib.hid hc
    clear hP hc eg
    go_enter Tryz.func109, Tryz.ntmps109
    go_wp2_with (go_at_call 140; refine HC.out.mono ?_; rintro e w5 ⟨rfl, hB5⟩)
    go_ret
    exact ⟨ret_bool (by rw [stmtsOk_any]), hB5⟩
end Go.Proofs.YtkfdnlfkomhmfaaGreatDoor
