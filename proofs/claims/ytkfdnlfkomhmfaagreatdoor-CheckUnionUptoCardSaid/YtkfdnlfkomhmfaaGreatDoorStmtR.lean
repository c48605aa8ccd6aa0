/- Well-formed statements: the reference's StmtsOK answers as the program's wellFormedStmts. -/
import Derived.Test.YtkfdnlfkomhmfaaGreatDoorStmtW
namespace Go.Proofs.YtkfdnlfkomhmfaaGreatDoor
open Go.RowKit
set_option linter.unusedVariables false
set_option linter.unusedSimpArgs false

def inRange (k : Int) : Bool := decide (1 ≤ k ∧ k ≤ 13)
theorem shapeCases (k : Int) : k = 1 ∨ k = 2 ∨ k = 3 ∨ k = 4 ∨ k = 5 ∨ k = 6 ∨ k = 7 ∨ k = 8 ∨ k = 9 ∨ k = 10 ∨ k = 11 ∨ k = 12 ∨ k = 13 ∨ (k < 1 ∨ 13 < k) := by omega
set_option maxHeartbeats 2000000 in
theorem shape_any (k : Int) (w : World) : Calls Tryz.prog 157 #[.int .i64 k] w fun e w' =>
    e = .returned (.tuple #[.agg #[.bool (sName k), .bool (sN k), .bool (sBody k), .bool (sEls k), .int .i64 (sArgs k)], .bool (inRange k)]) ∧ Below w.heap.size w w' := by
  rcases shapeCases k with rfl | rfl | rfl | rfl | rfl | rfl | rfl | rfl | rfl | rfl | rfl | rfl | rfl | hk
  case inr.inr.inr.inr.inr.inr.inr.inr.inr.inr.inr.inr.inr =>
    have hall : ∀ j : Int, 1 ≤ j → j ≤ 13 → (k == j) = false := fun j h1 h2 => beq_eq_false_iff_ne.2 (by omega)
    have g1 := hall 1 (by omega) (by omega)
    have g2 := hall 2 (by omega) (by omega)
    have g3 := hall 3 (by omega) (by omega)
    have g4 := hall 4 (by omega) (by omega)
    have g5 := hall 5 (by omega) (by omega)
    have g6 := hall 6 (by omega) (by omega)
    have g7 := hall 7 (by omega) (by omega)
    have g8 := hall 8 (by omega) (by omega)
    have g9 := hall 9 (by omega) (by omega)
    have g10 := hall 10 (by omega) (by omega)
    have g11 := hall 11 (by omega) (by omega)
    have g12 := hall 12 (by omega) (by omega)
    have g13 := hall 13 (by omega) (by omega)
    have r1 : sName k = false := decide_eq_false (by omega)
    have r2 : sN k = false := decide_eq_false (by omega)
    have r3 : sBody k = false := decide_eq_false (by omega)
    have r4 : sEls k = false := decide_eq_false (by omega)
    have r5 : sArgs k = 0 := by unfold sArgs; rw [if_neg (by omega), if_neg (by omega)]
    have r6 : inRange k = false := decide_eq_false (by omega)
    rw [r1, r2, r3, r4, r5, r6]
    clear r1 r2 r3 r4 r5 r6 hall hk
    go_enter Tryz.func157, Tryz.ntmps157
    go_wp2
    exact bodyPost_ret (v := .tuple #[.agg #[.bool false, .bool false, .bool false, .bool false, .int .i64 0], .bool false]) (by simp [results, Tryz.results157, go_sem]) rfl ⟨rfl, by go_grown⟩
  all_goals go_enter Tryz.func157, Tryz.ntmps157
  all_goals go_wp2
  all_goals refine bodyPost_ret (v := .tuple #[.agg #[.bool _, .bool _, .bool _, .bool _, .int .i64 _], .bool _]) (by simp [results, Tryz.results157, go_sem, sName, sN, sBody, sEls, sArgs, inRange]; done) rfl ⟨rfl, by go_grown⟩

theorem head_range {s : Stmt} (h : inRange s.kind = false) : stmtHead s = false := by simp only [stmtHead, show decide (1 ≤ s.kind ∧ s.kind ≤ 13) = false from h]; rfl
theorem head_len {s : Stmt} (h : ((s.args.length : Int) != sArgs s.kind) = true) : stmtHead s = false := by
  have := bne_iff_ne.1 h
  simp [stmtHead, this]
theorem head_name {s : Stmt} (h : sName s.kind = false) (h' : ¬ s.name = emp) : stmtHead s = false := by simp [stmtHead, nmB, h, h']
theorem head_ident {s : Stmt} (h : sName s.kind = true) (h' : ident s.name = false) : stmtHead s = false := by simp [stmtHead, nmB, h, h']
theorem nmB_emp {s : Stmt} (h : sName s.kind = false) (h' : s.name = emp) : nmB s = true := by simp [nmB, h, h']
theorem nmB_ident {s : Stmt} (h : sName s.kind = true) (h' : ident s.name = true) : nmB s = true := by simp [nmB, h, h']
theorem head_num {s : Stmt} (h : num s.n = false) : stmtHead s = false := by
  have hn : s.n ≠ 0 := by intro h0; rw [h0] at h; exact absurd h (by decide)
  simp [stmtHead, nB, h, hn]
theorem head_n {s : Stmt} (h : sN s.kind = false) (h' : ¬ s.n = 0) : stmtHead s = false := by simp [stmtHead, nB, h, h']
theorem nB_zero {s : Stmt} (h : sN s.kind = false) (h' : s.n = 0) : nB s = true := by simp [nB, h, h']
theorem nB_num {s : Stmt} (h : sN s.kind = true) (h' : num s.n = true) : nB s = true := by simp [nB, h, h']
theorem head_body {s : Stmt} (h : sBody s.kind = false) (h' : 0 < s.body.length) : stmtHead s = false := by
  have : ¬ s.body.length = 0 := by omega
  simp only [stmtHead, lsB, h, decide_eq_false this]; simp
theorem head_els {s : Stmt} (h : sEls s.kind = false) (h' : 0 < s.els.length) : stmtHead s = false := by
  have : ¬ s.els.length = 0 := by omega
  simp only [stmtHead, lsB, h, decide_eq_false this]; simp
theorem lsB_body {s : Stmt} (h : ¬ 0 < s.body.length) : (sBody s.kind || decide (s.body.length = 0)) = true := by rw [decide_eq_true (by omega)]; simp
theorem lsB_body2 {s : Stmt} (h : sBody s.kind = true) : (sBody s.kind || decide (s.body.length = 0)) = true := by rw [h]; rfl
theorem head_ok {s : Stmt} (hr : inRange s.kind = true) (hl : ((s.args.length : Int) != sArgs s.kind) = false) (hn : nmB s = true) (hnB : nB s = true) (hb : (sBody s.kind || decide (s.body.length = 0)) = true)
    (he : sEls s.kind = true ∨ ¬ 0 < s.els.length) : stmtHead s = true := by
  have h1 := bne_eq_false_iff_eq.1 hl
  have h2 : (sEls s.kind || decide (s.els.length = 0)) = true := by
    rcases he with he | he
    · rw [he]; rfl
    · rw [decide_eq_true (show s.els.length = 0 by omega)]; simp
  simp only [stmtHead, show decide (1 ≤ s.kind ∧ s.kind ≤ 13) = true from hr, hn, hnB, lsB, hb, h2, decide_eq_true h1]; rfl
theorem stmtsOk_snoc {l : List Stmt} {k : Nat} {x : Stmt} (h : l[k]? = some x) : stmtsOk (l.take (k + 1)) = (stmtsOk (l.take k) && stmtOk x) := by
  rw [take_snoc h, stmtsOk_all, stmtsOk_all]; simp
theorem stmtsOk_bad {l : List Stmt} {x : Stmt} (h : x ∈ l) (hx : stmtOk x = false) : stmtsOk l = false := by
  rw [stmtsOk_all, List.all_eq_false]; exact ⟨x, h, by simp [hx]⟩

set_option maxRecDepth 100000 in
set_option maxHeartbeats 8000000 in
theorem StmtsOK_any (m : Nat) : ∀ (l : List Stmt) (v : Value) (N : Nat) (w : World), sszs l < m → StmtsAt N w v l → N ≤ w.heap.size →
    Calls Tryz.prog 123 #[v] w fun e w' => e = .returned (.bool (stmtsOk l)) ∧ Below w.heap.size w w' := by
  induction m with
  | zero => intro l v N w hx; omega
  | succ m ih =>
    intro l v N w hx hA hN
    obtain ⟨oa, cap, rfl, hc1, hc2, hc3⟩ := hA.slice
    go_enter Tryz.func123, Tryz.ntmps123
    go_wp2_with fail
    go_loopw [11] (fun i wr => ∃ k : Nat, k ≤ l.length ∧ i = .int .i64 k ∧ stmtsOk (l.take k) = true ∧ Below w.heap.size w wr) (fun i _ => l.length - (intOf i).toNat)
    case atStart => exact ⟨0, Nat.zero_le _, rfl, rfl, Below.refl _ _⟩
    case round =>
      obtain ⟨k, hk, rfl, hok, hB⟩ := hrel
      have HOK := Lib.hid hok
      clear hok
      have hBs := hB.size
      by_cases hlt : k < l.length
      · obtain ⟨y, b, off, va, vb, ve, hy, rfl, hb, hwf, ha, hbo, hel, c0, c1, c2, c3, c4, c5, c6⟩ := (hA.lift (hB.mono hN)).at hlt
        obtain ⟨oy, cy, rfl, _, _, _⟩ := ha.slice
        obtain ⟨ob, cb, rfl, _, _, _⟩ := hbo.slice
        obtain ⟨oe, ce, rfl, _, _, _⟩ := hel.slice
        have hmem := List.mem_of_getElem? hy
        have hle := mem_ssz hmem
        have hye := ssz_eq y
        have HS := Lib.hid (stmtsOk_snoc hy)
        have HY := Lib.hid (stmtOk_eq y)
        have HM := Lib.hid hmem
        have hst := Lib.hid hwf.2.1
        have hsz1 : sszs y.body < m := by omega
        have hsz2 : sszs y.els < m := by omega
        clear hye hmem hy
        go_upto_region 4 with fail
        have hWB := (Below.refl wr.heap.size wr).alloc (Nat.le_refl _) (.cells #[.int .i64 y.kind, .string y.name, .int .i64 y.n, .slice oy y.args.length cy, .slice ob y.body.length cb, .slice oe y.els.length ce, .int .i64 y.pos] 44)
        generalize hWW : wr.alloc (.cells #[.int .i64 y.kind, .string y.name, .int .i64 y.n, .slice oy y.args.length cy, .slice ob y.body.length cb, .slice oe y.els.length ce, .int .i64 y.pos] 44) = W at hWB ⊢
        have d0 : W.cell? ⟨wr.heap.size, 0, none⟩ = some (.int .i64 y.kind) := by rw [← hWW]; exact cell_first rfl
        have d1 : W.cell? ⟨wr.heap.size, 1, none⟩ = some (.string y.name) := by rw [← hWW]; exact cell_first rfl
        have d2 : W.cell? ⟨wr.heap.size, 2, none⟩ = some (.int .i64 y.n) := by rw [← hWW]; exact cell_first rfl
        have d3 : W.cell? ⟨wr.heap.size, 3, none⟩ = some (.slice oy y.args.length cy) := by rw [← hWW]; exact cell_first rfl
        have d4 : W.cell? ⟨wr.heap.size, 4, none⟩ = some (.slice ob y.body.length cb) := by rw [← hWW]; exact cell_first rfl
        have d5 : W.cell? ⟨wr.heap.size, 5, none⟩ = some (.slice oe y.els.length ce) := by rw [← hWW]; exact cell_first rfl
        have hlW : wr.heap.size < W.heap.size := by rw [← hWW]; simp
        clear hWW c0 c1 c2 c3 c4 c5 c6
        have hBW : Below w.heap.size w W := hB.trans (hWB.mono hBs)
        have hnum : ∀ w, Calls Tryz.prog 85 #[.int .i64 y.n, .int .i64 0] w fun e w' => e = .returned (.bool (num y.n)) ∧ w' = w := fun w => rnumber_any y.n 0 w
        go_upto_region 5 with (go_at_call 157; refine (shape_any _ _).mono ?_; rintro e w1 ⟨rfl, hB1⟩; obtain ⟨hcl, hfr⟩ := bcell hB1; have hz1 := hB1.size)
        have hlt1 : wr.heap.size < w1.heap.size := by omega
        have e1 := cell_past (o := .cells #[.bool (sName y.kind), .bool (sN y.kind), .bool (sBody y.kind), .bool (sEls y.kind), .int .i64 (sArgs y.kind)] 192) (cell_later d1 hB1) hlt1
        have e2 := cell_past (o := .cells #[.bool (sName y.kind), .bool (sN y.kind), .bool (sBody y.kind), .bool (sEls y.kind), .int .i64 (sArgs y.kind)] 192) (cell_later d2 hB1) hlt1
        have e3 := cell_past (o := .cells #[.bool (sName y.kind), .bool (sN y.kind), .bool (sBody y.kind), .bool (sEls y.kind), .int .i64 (sArgs y.kind)] 192) (cell_later d3 hB1) hlt1
        have e4 := cell_past (o := .cells #[.bool (sName y.kind), .bool (sN y.kind), .bool (sBody y.kind), .bool (sEls y.kind), .int .i64 (sArgs y.kind)] 192) (cell_later d4 hB1) hlt1
        have e5 := cell_past (o := .cells #[.bool (sName y.kind), .bool (sN y.kind), .bool (sBody y.kind), .bool (sEls y.kind), .int .i64 (sArgs y.kind)] 192) (cell_later d5 hB1) hlt1
        have x0 : (w1.alloc (.cells #[.bool (sName y.kind), .bool (sN y.kind), .bool (sBody y.kind), .bool (sEls y.kind), .int .i64 (sArgs y.kind)] 192)).cell? ⟨w1.heap.size, 0, none⟩ = some (.bool (sName y.kind)) := cell_first rfl
        have x1 : (w1.alloc (.cells #[.bool (sName y.kind), .bool (sN y.kind), .bool (sBody y.kind), .bool (sEls y.kind), .int .i64 (sArgs y.kind)] 192)).cell? ⟨w1.heap.size, 1, none⟩ = some (.bool (sN y.kind)) := cell_first rfl
        have x2 : (w1.alloc (.cells #[.bool (sName y.kind), .bool (sN y.kind), .bool (sBody y.kind), .bool (sEls y.kind), .int .i64 (sArgs y.kind)] 192)).cell? ⟨w1.heap.size, 2, none⟩ = some (.bool (sBody y.kind)) := cell_first rfl
        have x3 : (w1.alloc (.cells #[.bool (sName y.kind), .bool (sN y.kind), .bool (sBody y.kind), .bool (sEls y.kind), .int .i64 (sArgs y.kind)] 192)).cell? ⟨w1.heap.size, 3, none⟩ = some (.bool (sEls y.kind)) := cell_first rfl
        have x4 : (w1.alloc (.cells #[.bool (sName y.kind), .bool (sN y.kind), .bool (sBody y.kind), .bool (sEls y.kind), .int .i64 (sArgs y.kind)] 192)).cell? ⟨w1.heap.size, 4, none⟩ = some (.int .i64 (sArgs y.kind)) := cell_first rfl
        have hBV : Below W.heap.size W (w1.alloc (.cells #[.bool (sName y.kind), .bool (sN y.kind), .bool (sBody y.kind), .bool (sEls y.kind), .int .i64 (sArgs y.kind)] 192)) := hB1.alloc hz1 _
        have hVs : (w1.alloc (.cells #[.bool (sName y.kind), .bool (sN y.kind), .bool (sBody y.kind), .bool (sEls y.kind), .int .i64 (sArgs y.kind)] 192)).heap.size = w1.heap.size + 1 := by simp
        generalize w1.alloc (.cells #[.bool (sName y.kind), .bool (sN y.kind), .bool (sBody y.kind), .bool (sEls y.kind), .int .i64 (sArgs y.kind)] 192) = V at e1 e2 e3 e4 e5 x0 x1 x2 x3 x4 hBV hVs ⊢
        have hlV1 : wr.heap.size < V.heap.size := by omega
        have hlV2 : w1.heap.size < V.heap.size := by omega
        have D3 := Lib.hid d3
        have D4 := Lib.hid d4
        have D5 := Lib.hid d5
        clear hcl hfr hB1 hz1 hVs d0 d1 d2 d3 d4 d5
        go_cut [4, 6, 11, 88] (fun s4 s6 s11 s88 wx => s4 = .pointer (some ⟨wr.heap.size, 0, none⟩) ∧ s6 = .bool (inRange y.kind) ∧ s11 = .int .i64 k ∧ s88 = .bool (!stmtHead y) ∧ Below W.heap.size W wx)
        case first =>
          simp only [List.append]
          cases hrg : inRange y.kind
          case false =>
            have HR := Lib.hid (show stmtHead y = false from head_range hrg)
            go_wp2_with (first | (go_at_call 84; refine (Ident_any _ _ hst.out).mono ?_; rintro e w2 ⟨rfl, hB2⟩; obtain ⟨hcl2, hfr2⟩ := bcell hB2) | (go_at_call 85; refine (hnum _).mono ?_; rintro e w3 ⟨rfl, rfl⟩))
            go_meet
            exact ⟨rfl, congrArg Value.bool (by rw [hrg]), rfl, congrArg Value.bool (by rw [HR.out]; rfl), hBV⟩
          case true =>
          cases hlz : ((y.args.length : Int) != sArgs y.kind)
          case true =>
            have HR := Lib.hid (show stmtHead y = false from head_len hlz)
            go_wp2_with (first | (go_at_call 84; refine (Ident_any _ _ hst.out).mono ?_; rintro e w2 ⟨rfl, hB2⟩; obtain ⟨hcl2, hfr2⟩ := bcell hB2) | (go_at_call 85; refine (hnum _).mono ?_; rintro e w3 ⟨rfl, rfl⟩))
            go_meet
            exact ⟨rfl, congrArg Value.bool (by rw [hrg]), rfl, congrArg Value.bool (by rw [HR.out]; rfl), hBV⟩
          case false =>
          cases hsm : sName y.kind
          case false =>
            by_cases hem : y.name = emp
            case neg =>
              have hzz : y.name.toList.isEmpty = false := ba_nonempty hem
              have HR := Lib.hid (show stmtHead y = false from head_name hsm hem)
              go_wp2_with (first | (go_at_call 84; refine (Ident_any _ _ hst.out).mono ?_; rintro e w2 ⟨rfl, hB2⟩; obtain ⟨hcl2, hfr2⟩ := bcell hB2) | (go_at_call 85; refine (hnum _).mono ?_; rintro e w3 ⟨rfl, rfl⟩))
              go_meet
              exact ⟨rfl, congrArg Value.bool (by rw [hrg]), rfl, congrArg Value.bool (by rw [HR.out]; rfl), hBV⟩
            case pos =>
              have hzz : y.name.toList.isEmpty = true := by rw [hem, ByteArray.toList_eq]; rfl
              have hnm := Lib.hid (nmB_emp hsm hem)
              clear hem
              cases hn : num y.n
              case false =>
                have HR := Lib.hid (show stmtHead y = false from head_num hn)
                go_wp2_with (first | (go_at_call 84; refine (Ident_any _ _ hst.out).mono ?_; rintro e w2 ⟨rfl, hB2⟩; obtain ⟨hcl2, hfr2⟩ := bcell hB2) | (go_at_call 85; refine (hnum _).mono ?_; rintro e w3 ⟨rfl, rfl⟩))
                go_meet
                exact ⟨rfl, congrArg Value.bool (by rw [hrg]), rfl, congrArg Value.bool (by rw [HR.out]; rfl), hBV⟩
              case true =>
              cases hsn : sN y.kind
              case false =>
                by_cases h0 : y.n = 0
                case neg =>
                  have h0b : (y.n != 0) = true := bne_iff_ne.2 h0
                  have HR := Lib.hid (show stmtHead y = false from head_n hsn h0)
                  go_wp2_with (first | (go_at_call 84; refine (Ident_any _ _ hst.out).mono ?_; rintro e w2 ⟨rfl, hB2⟩; obtain ⟨hcl2, hfr2⟩ := bcell hB2) | (go_at_call 85; refine (hnum _).mono ?_; rintro e w3 ⟨rfl, rfl⟩))
                  go_meet
                  exact ⟨rfl, congrArg Value.bool (by rw [hrg]), rfl, congrArg Value.bool (by rw [HR.out]; rfl), hBV⟩
                case pos =>
                  have h0b : (y.n != 0) = false := bne_eq_false_iff_eq.2 h0
                  have hnB := Lib.hid (nB_zero hsn h0)
                  clear h0
                  cases hsb : sBody y.kind
                  case false =>
                    by_cases hlb : 0 < y.body.length
                    case pos =>
                      have HR := Lib.hid (show stmtHead y = false from head_body hsb hlb)
                      go_wp2_with (first | (go_at_call 84; refine (Ident_any _ _ hst.out).mono ?_; rintro e w2 ⟨rfl, hB2⟩; obtain ⟨hcl2, hfr2⟩ := bcell hB2) | (go_at_call 85; refine (hnum _).mono ?_; rintro e w3 ⟨rfl, rfl⟩))
                      go_meet
                      exact ⟨rfl, congrArg Value.bool (by rw [hrg]), rfl, congrArg Value.bool (by rw [HR.out]; rfl), hBV⟩
                    case neg =>
                      have hB := Lib.hid (lsB_body hlb)
                      cases hse : sEls y.kind
                      case false =>
                        by_cases hle : 0 < y.els.length
                        case pos =>
                          have HR := Lib.hid (show stmtHead y = false from head_els hse hle)
                          go_wp2_with (first | (go_at_call 84; refine (Ident_any _ _ hst.out).mono ?_; rintro e w2 ⟨rfl, hB2⟩; obtain ⟨hcl2, hfr2⟩ := bcell hB2) | (go_at_call 85; refine (hnum _).mono ?_; rintro e w3 ⟨rfl, rfl⟩))
                          go_meet
                          exact ⟨rfl, congrArg Value.bool (by rw [hrg]), rfl, congrArg Value.bool (by rw [HR.out]; rfl), hBV⟩
                        case neg =>
                          have HR := Lib.hid (show stmtHead y = true from head_ok hrg hlz hnm.out hnB.out hB.out (.inr hle))
                          go_wp2_with (first | (go_at_call 84; refine (Ident_any _ _ hst.out).mono ?_; rintro e w2 ⟨rfl, hB2⟩; obtain ⟨hcl2, hfr2⟩ := bcell hB2) | (go_at_call 85; refine (hnum _).mono ?_; rintro e w3 ⟨rfl, rfl⟩))
                          go_meet
                          exact ⟨rfl, congrArg Value.bool (by rw [hrg]), rfl, congrArg Value.bool (by rw [HR.out]; rfl), hBV⟩
                      case true =>
                        have HR := Lib.hid (show stmtHead y = true from head_ok hrg hlz hnm.out hnB.out hB.out (.inl hse))
                        go_wp2_with (first | (go_at_call 84; refine (Ident_any _ _ hst.out).mono ?_; rintro e w2 ⟨rfl, hB2⟩; obtain ⟨hcl2, hfr2⟩ := bcell hB2) | (go_at_call 85; refine (hnum _).mono ?_; rintro e w3 ⟨rfl, rfl⟩))
                        go_meet
                        exact ⟨rfl, congrArg Value.bool (by rw [hrg]), rfl, congrArg Value.bool (by rw [HR.out]; rfl), hBV⟩
                  case true =>
                    have hB := Lib.hid (lsB_body2 hsb)
                    cases hse : sEls y.kind
                    case false =>
                      by_cases hle : 0 < y.els.length
                      case pos =>
                        have HR := Lib.hid (show stmtHead y = false from head_els hse hle)
                        go_wp2_with (first | (go_at_call 84; refine (Ident_any _ _ hst.out).mono ?_; rintro e w2 ⟨rfl, hB2⟩; obtain ⟨hcl2, hfr2⟩ := bcell hB2) | (go_at_call 85; refine (hnum _).mono ?_; rintro e w3 ⟨rfl, rfl⟩))
                        go_meet
                        exact ⟨rfl, congrArg Value.bool (by rw [hrg]), rfl, congrArg Value.bool (by rw [HR.out]; rfl), hBV⟩
                      case neg =>
                        have HR := Lib.hid (show stmtHead y = true from head_ok hrg hlz hnm.out hnB.out hB.out (.inr hle))
                        go_wp2_with (first | (go_at_call 84; refine (Ident_any _ _ hst.out).mono ?_; rintro e w2 ⟨rfl, hB2⟩; obtain ⟨hcl2, hfr2⟩ := bcell hB2) | (go_at_call 85; refine (hnum _).mono ?_; rintro e w3 ⟨rfl, rfl⟩))
                        go_meet
                        exact ⟨rfl, congrArg Value.bool (by rw [hrg]), rfl, congrArg Value.bool (by rw [HR.out]; rfl), hBV⟩
                    case true =>
                      have HR := Lib.hid (show stmtHead y = true from head_ok hrg hlz hnm.out hnB.out hB.out (.inl hse))
                      go_wp2_with (first | (go_at_call 84; refine (Ident_any _ _ hst.out).mono ?_; rintro e w2 ⟨rfl, hB2⟩; obtain ⟨hcl2, hfr2⟩ := bcell hB2) | (go_at_call 85; refine (hnum _).mono ?_; rintro e w3 ⟨rfl, rfl⟩))
                      go_meet
                      exact ⟨rfl, congrArg Value.bool (by rw [hrg]), rfl, congrArg Value.bool (by rw [HR.out]; rfl), hBV⟩
              case true =>
                have hnB := Lib.hid (nB_num hsn hn)
                cases hsb : sBody y.kind
                case false =>
                  by_cases hlb : 0 < y.body.length
                  case pos =>
                    have HR := Lib.hid (show stmtHead y = false from head_body hsb hlb)
                    go_wp2_with (first | (go_at_call 84; refine (Ident_any _ _ hst.out).mono ?_; rintro e w2 ⟨rfl, hB2⟩; obtain ⟨hcl2, hfr2⟩ := bcell hB2) | (go_at_call 85; refine (hnum _).mono ?_; rintro e w3 ⟨rfl, rfl⟩))
                    go_meet
                    exact ⟨rfl, congrArg Value.bool (by rw [hrg]), rfl, congrArg Value.bool (by rw [HR.out]; rfl), hBV⟩
                  case neg =>
                    have hB := Lib.hid (lsB_body hlb)
                    cases hse : sEls y.kind
                    case false =>
                      by_cases hle : 0 < y.els.length
                      case pos =>
                        have HR := Lib.hid (show stmtHead y = false from head_els hse hle)
                        go_wp2_with (first | (go_at_call 84; refine (Ident_any _ _ hst.out).mono ?_; rintro e w2 ⟨rfl, hB2⟩; obtain ⟨hcl2, hfr2⟩ := bcell hB2) | (go_at_call 85; refine (hnum _).mono ?_; rintro e w3 ⟨rfl, rfl⟩))
                        go_meet
                        exact ⟨rfl, congrArg Value.bool (by rw [hrg]), rfl, congrArg Value.bool (by rw [HR.out]; rfl), hBV⟩
                      case neg =>
                        have HR := Lib.hid (show stmtHead y = true from head_ok hrg hlz hnm.out hnB.out hB.out (.inr hle))
                        go_wp2_with (first | (go_at_call 84; refine (Ident_any _ _ hst.out).mono ?_; rintro e w2 ⟨rfl, hB2⟩; obtain ⟨hcl2, hfr2⟩ := bcell hB2) | (go_at_call 85; refine (hnum _).mono ?_; rintro e w3 ⟨rfl, rfl⟩))
                        go_meet
                        exact ⟨rfl, congrArg Value.bool (by rw [hrg]), rfl, congrArg Value.bool (by rw [HR.out]; rfl), hBV⟩
                    case true =>
                      have HR := Lib.hid (show stmtHead y = true from head_ok hrg hlz hnm.out hnB.out hB.out (.inl hse))
                      go_wp2_with (first | (go_at_call 84; refine (Ident_any _ _ hst.out).mono ?_; rintro e w2 ⟨rfl, hB2⟩; obtain ⟨hcl2, hfr2⟩ := bcell hB2) | (go_at_call 85; refine (hnum _).mono ?_; rintro e w3 ⟨rfl, rfl⟩))
                      go_meet
                      exact ⟨rfl, congrArg Value.bool (by rw [hrg]), rfl, congrArg Value.bool (by rw [HR.out]; rfl), hBV⟩
                case true =>
                  have hB := Lib.hid (lsB_body2 hsb)
                  cases hse : sEls y.kind
                  case false =>
                    by_cases hle : 0 < y.els.length
                    case pos =>
                      have HR := Lib.hid (show stmtHead y = false from head_els hse hle)
                      go_wp2_with (first | (go_at_call 84; refine (Ident_any _ _ hst.out).mono ?_; rintro e w2 ⟨rfl, hB2⟩; obtain ⟨hcl2, hfr2⟩ := bcell hB2) | (go_at_call 85; refine (hnum _).mono ?_; rintro e w3 ⟨rfl, rfl⟩))
                      go_meet
                      exact ⟨rfl, congrArg Value.bool (by rw [hrg]), rfl, congrArg Value.bool (by rw [HR.out]; rfl), hBV⟩
                    case neg =>
                      have HR := Lib.hid (show stmtHead y = true from head_ok hrg hlz hnm.out hnB.out hB.out (.inr hle))
                      go_wp2_with (first | (go_at_call 84; refine (Ident_any _ _ hst.out).mono ?_; rintro e w2 ⟨rfl, hB2⟩; obtain ⟨hcl2, hfr2⟩ := bcell hB2) | (go_at_call 85; refine (hnum _).mono ?_; rintro e w3 ⟨rfl, rfl⟩))
                      go_meet
                      exact ⟨rfl, congrArg Value.bool (by rw [hrg]), rfl, congrArg Value.bool (by rw [HR.out]; rfl), hBV⟩
                  case true =>
                    have HR := Lib.hid (show stmtHead y = true from head_ok hrg hlz hnm.out hnB.out hB.out (.inl hse))
                    go_wp2_with (first | (go_at_call 84; refine (Ident_any _ _ hst.out).mono ?_; rintro e w2 ⟨rfl, hB2⟩; obtain ⟨hcl2, hfr2⟩ := bcell hB2) | (go_at_call 85; refine (hnum _).mono ?_; rintro e w3 ⟨rfl, rfl⟩))
                    go_meet
                    exact ⟨rfl, congrArg Value.bool (by rw [hrg]), rfl, congrArg Value.bool (by rw [HR.out]; rfl), hBV⟩
          case true =>
            cases hid : ident y.name
            case false =>
              have HR := Lib.hid (show stmtHead y = false from head_ident hsm hid)
              go_wp2_with (first | (go_at_call 84; refine (Ident_any _ _ hst.out).mono ?_; rintro e w2 ⟨rfl, hB2⟩; obtain ⟨hcl2, hfr2⟩ := bcell hB2) | (go_at_call 85; refine (hnum _).mono ?_; rintro e w3 ⟨rfl, rfl⟩))
              go_meet
              exact ⟨rfl, congrArg Value.bool (by rw [hrg]), rfl, congrArg Value.bool (by rw [HR.out]; rfl), hBV.trans (hB2.mono hBV.size)⟩
            case true =>
              have hnm := Lib.hid (nmB_ident hsm hid)
              cases hn : num y.n
              case false =>
                have HR := Lib.hid (show stmtHead y = false from head_num hn)
                go_wp2_with (first | (go_at_call 84; refine (Ident_any _ _ hst.out).mono ?_; rintro e w2 ⟨rfl, hB2⟩; obtain ⟨hcl2, hfr2⟩ := bcell hB2) | (go_at_call 85; refine (hnum _).mono ?_; rintro e w3 ⟨rfl, rfl⟩))
                go_meet
                exact ⟨rfl, congrArg Value.bool (by rw [hrg]), rfl, congrArg Value.bool (by rw [HR.out]; rfl), hBV.trans (hB2.mono hBV.size)⟩
              case true =>
              cases hsn : sN y.kind
              case false =>
                by_cases h0 : y.n = 0
                case neg =>
                  have h0b : (y.n != 0) = true := bne_iff_ne.2 h0
                  have HR := Lib.hid (show stmtHead y = false from head_n hsn h0)
                  go_wp2_with (first | (go_at_call 84; refine (Ident_any _ _ hst.out).mono ?_; rintro e w2 ⟨rfl, hB2⟩; obtain ⟨hcl2, hfr2⟩ := bcell hB2) | (go_at_call 85; refine (hnum _).mono ?_; rintro e w3 ⟨rfl, rfl⟩))
                  go_meet
                  exact ⟨rfl, congrArg Value.bool (by rw [hrg]), rfl, congrArg Value.bool (by rw [HR.out]; rfl), hBV.trans (hB2.mono hBV.size)⟩
                case pos =>
                  have h0b : (y.n != 0) = false := bne_eq_false_iff_eq.2 h0
                  have hnB := Lib.hid (nB_zero hsn h0)
                  clear h0
                  cases hsb : sBody y.kind
                  case false =>
                    by_cases hlb : 0 < y.body.length
                    case pos =>
                      have HR := Lib.hid (show stmtHead y = false from head_body hsb hlb)
                      go_wp2_with (first | (go_at_call 84; refine (Ident_any _ _ hst.out).mono ?_; rintro e w2 ⟨rfl, hB2⟩; obtain ⟨hcl2, hfr2⟩ := bcell hB2) | (go_at_call 85; refine (hnum _).mono ?_; rintro e w3 ⟨rfl, rfl⟩))
                      go_meet
                      exact ⟨rfl, congrArg Value.bool (by rw [hrg]), rfl, congrArg Value.bool (by rw [HR.out]; rfl), hBV.trans (hB2.mono hBV.size)⟩
                    case neg =>
                      have hB := Lib.hid (lsB_body hlb)
                      cases hse : sEls y.kind
                      case false =>
                        by_cases hle : 0 < y.els.length
                        case pos =>
                          have HR := Lib.hid (show stmtHead y = false from head_els hse hle)
                          go_wp2_with (first | (go_at_call 84; refine (Ident_any _ _ hst.out).mono ?_; rintro e w2 ⟨rfl, hB2⟩; obtain ⟨hcl2, hfr2⟩ := bcell hB2) | (go_at_call 85; refine (hnum _).mono ?_; rintro e w3 ⟨rfl, rfl⟩))
                          go_meet
                          exact ⟨rfl, congrArg Value.bool (by rw [hrg]), rfl, congrArg Value.bool (by rw [HR.out]; rfl), hBV.trans (hB2.mono hBV.size)⟩
                        case neg =>
                          have HR := Lib.hid (show stmtHead y = true from head_ok hrg hlz hnm.out hnB.out hB.out (.inr hle))
                          go_wp2_with (first | (go_at_call 84; refine (Ident_any _ _ hst.out).mono ?_; rintro e w2 ⟨rfl, hB2⟩; obtain ⟨hcl2, hfr2⟩ := bcell hB2) | (go_at_call 85; refine (hnum _).mono ?_; rintro e w3 ⟨rfl, rfl⟩))
                          go_meet
                          exact ⟨rfl, congrArg Value.bool (by rw [hrg]), rfl, congrArg Value.bool (by rw [HR.out]; rfl), hBV.trans (hB2.mono hBV.size)⟩
                      case true =>
                        have HR := Lib.hid (show stmtHead y = true from head_ok hrg hlz hnm.out hnB.out hB.out (.inl hse))
                        go_wp2_with (first | (go_at_call 84; refine (Ident_any _ _ hst.out).mono ?_; rintro e w2 ⟨rfl, hB2⟩; obtain ⟨hcl2, hfr2⟩ := bcell hB2) | (go_at_call 85; refine (hnum _).mono ?_; rintro e w3 ⟨rfl, rfl⟩))
                        go_meet
                        exact ⟨rfl, congrArg Value.bool (by rw [hrg]), rfl, congrArg Value.bool (by rw [HR.out]; rfl), hBV.trans (hB2.mono hBV.size)⟩
                  case true =>
                    have hB := Lib.hid (lsB_body2 hsb)
                    cases hse : sEls y.kind
                    case false =>
                      by_cases hle : 0 < y.els.length
                      case pos =>
                        have HR := Lib.hid (show stmtHead y = false from head_els hse hle)
                        go_wp2_with (first | (go_at_call 84; refine (Ident_any _ _ hst.out).mono ?_; rintro e w2 ⟨rfl, hB2⟩; obtain ⟨hcl2, hfr2⟩ := bcell hB2) | (go_at_call 85; refine (hnum _).mono ?_; rintro e w3 ⟨rfl, rfl⟩))
                        go_meet
                        exact ⟨rfl, congrArg Value.bool (by rw [hrg]), rfl, congrArg Value.bool (by rw [HR.out]; rfl), hBV.trans (hB2.mono hBV.size)⟩
                      case neg =>
                        have HR := Lib.hid (show stmtHead y = true from head_ok hrg hlz hnm.out hnB.out hB.out (.inr hle))
                        go_wp2_with (first | (go_at_call 84; refine (Ident_any _ _ hst.out).mono ?_; rintro e w2 ⟨rfl, hB2⟩; obtain ⟨hcl2, hfr2⟩ := bcell hB2) | (go_at_call 85; refine (hnum _).mono ?_; rintro e w3 ⟨rfl, rfl⟩))
                        go_meet
                        exact ⟨rfl, congrArg Value.bool (by rw [hrg]), rfl, congrArg Value.bool (by rw [HR.out]; rfl), hBV.trans (hB2.mono hBV.size)⟩
                    case true =>
                      have HR := Lib.hid (show stmtHead y = true from head_ok hrg hlz hnm.out hnB.out hB.out (.inl hse))
                      go_wp2_with (first | (go_at_call 84; refine (Ident_any _ _ hst.out).mono ?_; rintro e w2 ⟨rfl, hB2⟩; obtain ⟨hcl2, hfr2⟩ := bcell hB2) | (go_at_call 85; refine (hnum _).mono ?_; rintro e w3 ⟨rfl, rfl⟩))
                      go_meet
                      exact ⟨rfl, congrArg Value.bool (by rw [hrg]), rfl, congrArg Value.bool (by rw [HR.out]; rfl), hBV.trans (hB2.mono hBV.size)⟩
              case true =>
                have hnB := Lib.hid (nB_num hsn hn)
                cases hsb : sBody y.kind
                case false =>
                  by_cases hlb : 0 < y.body.length
                  case pos =>
                    have HR := Lib.hid (show stmtHead y = false from head_body hsb hlb)
                    go_wp2_with (first | (go_at_call 84; refine (Ident_any _ _ hst.out).mono ?_; rintro e w2 ⟨rfl, hB2⟩; obtain ⟨hcl2, hfr2⟩ := bcell hB2) | (go_at_call 85; refine (hnum _).mono ?_; rintro e w3 ⟨rfl, rfl⟩))
                    go_meet
                    exact ⟨rfl, congrArg Value.bool (by rw [hrg]), rfl, congrArg Value.bool (by rw [HR.out]; rfl), hBV.trans (hB2.mono hBV.size)⟩
                  case neg =>
                    have hB := Lib.hid (lsB_body hlb)
                    cases hse : sEls y.kind
                    case false =>
                      by_cases hle : 0 < y.els.length
                      case pos =>
                        have HR := Lib.hid (show stmtHead y = false from head_els hse hle)
                        go_wp2_with (first | (go_at_call 84; refine (Ident_any _ _ hst.out).mono ?_; rintro e w2 ⟨rfl, hB2⟩; obtain ⟨hcl2, hfr2⟩ := bcell hB2) | (go_at_call 85; refine (hnum _).mono ?_; rintro e w3 ⟨rfl, rfl⟩))
                        go_meet
                        exact ⟨rfl, congrArg Value.bool (by rw [hrg]), rfl, congrArg Value.bool (by rw [HR.out]; rfl), hBV.trans (hB2.mono hBV.size)⟩
                      case neg =>
                        have HR := Lib.hid (show stmtHead y = true from head_ok hrg hlz hnm.out hnB.out hB.out (.inr hle))
                        go_wp2_with (first | (go_at_call 84; refine (Ident_any _ _ hst.out).mono ?_; rintro e w2 ⟨rfl, hB2⟩; obtain ⟨hcl2, hfr2⟩ := bcell hB2) | (go_at_call 85; refine (hnum _).mono ?_; rintro e w3 ⟨rfl, rfl⟩))
                        go_meet
                        exact ⟨rfl, congrArg Value.bool (by rw [hrg]), rfl, congrArg Value.bool (by rw [HR.out]; rfl), hBV.trans (hB2.mono hBV.size)⟩
                    case true =>
                      have HR := Lib.hid (show stmtHead y = true from head_ok hrg hlz hnm.out hnB.out hB.out (.inl hse))
                      go_wp2_with (first | (go_at_call 84; refine (Ident_any _ _ hst.out).mono ?_; rintro e w2 ⟨rfl, hB2⟩; obtain ⟨hcl2, hfr2⟩ := bcell hB2) | (go_at_call 85; refine (hnum _).mono ?_; rintro e w3 ⟨rfl, rfl⟩))
                      go_meet
                      exact ⟨rfl, congrArg Value.bool (by rw [hrg]), rfl, congrArg Value.bool (by rw [HR.out]; rfl), hBV.trans (hB2.mono hBV.size)⟩
                case true =>
                  have hB := Lib.hid (lsB_body2 hsb)
                  cases hse : sEls y.kind
                  case false =>
                    by_cases hle : 0 < y.els.length
                    case pos =>
                      have HR := Lib.hid (show stmtHead y = false from head_els hse hle)
                      go_wp2_with (first | (go_at_call 84; refine (Ident_any _ _ hst.out).mono ?_; rintro e w2 ⟨rfl, hB2⟩; obtain ⟨hcl2, hfr2⟩ := bcell hB2) | (go_at_call 85; refine (hnum _).mono ?_; rintro e w3 ⟨rfl, rfl⟩))
                      go_meet
                      exact ⟨rfl, congrArg Value.bool (by rw [hrg]), rfl, congrArg Value.bool (by rw [HR.out]; rfl), hBV.trans (hB2.mono hBV.size)⟩
                    case neg =>
                      have HR := Lib.hid (show stmtHead y = true from head_ok hrg hlz hnm.out hnB.out hB.out (.inr hle))
                      go_wp2_with (first | (go_at_call 84; refine (Ident_any _ _ hst.out).mono ?_; rintro e w2 ⟨rfl, hB2⟩; obtain ⟨hcl2, hfr2⟩ := bcell hB2) | (go_at_call 85; refine (hnum _).mono ?_; rintro e w3 ⟨rfl, rfl⟩))
                      go_meet
                      exact ⟨rfl, congrArg Value.bool (by rw [hrg]), rfl, congrArg Value.bool (by rw [HR.out]; rfl), hBV.trans (hB2.mono hBV.size)⟩
                  case true =>
                    have HR := Lib.hid (show stmtHead y = true from head_ok hrg hlz hnm.out hnB.out hB.out (.inl hse))
                    go_wp2_with (first | (go_at_call 84; refine (Ident_any _ _ hst.out).mono ?_; rintro e w2 ⟨rfl, hB2⟩; obtain ⟨hcl2, hfr2⟩ := bcell hB2) | (go_at_call 85; refine (hnum _).mono ?_; rintro e w3 ⟨rfl, rfl⟩))
                    go_meet
                    exact ⟨rfl, congrArg Value.bool (by rw [hrg]), rfl, congrArg Value.bool (by rw [HR.out]; rfl), hBV.trans (hB2.mono hBV.size)⟩
        case rest =>
          obtain ⟨rfl, rfl, rfl, rfl, hB1⟩ := hcut
          have hBWs := hBW.size
          have hBwc := hBW.trans (hB1.mono hBWs)
          have hsc := hB1.size
          have e3 := cell_later D3.out hB1
          have e4 := cell_later D4.out hB1
          have e5 := cell_later D5.out hB1
          cases hh : stmtHead y
          case false =>
            have HF := Lib.hid (show stmtsOk l = false from stmtsOk_bad HM.out (by rw [HY.out, hh]; rfl))
            clear hh
            go_wp2_with fail
            go_ret
            exact ⟨ret_bool HF.out.symm, hBwc⟩
          case true =>
            have HY2 := Lib.hid (show stmtOk y = (exprsOk y.args && stmtsOk y.body && stmtsOk y.els) by rw [HY.out, hh]; rfl)
            clear HY hh
            have hA' := ha.lift ((hWB.trans (hB1.mono hWB.size)).mono (by omega))
            have hBo' := hbo.lift ((hWB.trans (hB1.mono hWB.size)).mono (by omega))
            have hEl' := hel.lift ((hWB.trans (hB1.mono hWB.size)).mono (by omega))
            clear ha hbo hel
            go_wp2_with fail
            go_loopw [92] (fun i wr2 => ∃ q : Nat, q ≤ y.args.length ∧ i = .int .i64 q ∧ exprsOk (y.args.take q) = true ∧ Below wc.heap.size wc wr2) (fun i _ => y.args.length - (intOf i).toNat)
            case atStart => exact ⟨0, Nat.zero_le _, rfl, rfl, Below.refl _ _⟩
            case round =>
              rename World => wr'
              obtain ⟨q, hq, rfl, hok2, hB2⟩ := hrel
              have HOK2 := Lib.hid hok2
              clear hok2
              have hB2s := hB2.size
              by_cases hlt2 : q < y.args.length
              · obtain ⟨z, bz, oz, vz, hz, rfl, hbz, hzwf, hsub, y0, y1, y2, y3, y4, y5⟩ := (hA'.lift (hB2.mono (by omega))).at hlt2
                obtain ⟨oy, cy, rfl, _, _, _⟩ := hsub.slice
                have HS2 := Lib.hid (exprsOk_snoc hz)
                have HMZ := Lib.hid (List.mem_of_getElem? hz)
                have hc := ExprOK_any (esz z + 1) z (.slice oy z.args.length cy) N (wr'.alloc (.cells #[.int .i64 z.kind, .string z.name, .int .i16 z.value, .int .i64 z.op, .slice oy z.args.length cy, .int .i64 z.pos] 40)) (by omega) hzwf (hsub.kept (fun b hb => Below.heap_alloc _ _ _ (by omega))) (by simp; omega)
                clear hz
                cases hzo : exprOk z
                · rw [hzo] at hc
                  have HF := Lib.hid (show stmtsOk l = false from stmtsOk_bad HM.out (by
                    have : exprsOk y.args = false := by rw [exprsOk_all, List.all_eq_false]; exact ⟨z, HMZ.out, by simp [hzo]⟩
                    rw [HY2.out, this]; rfl))
                  have HC := Lib.hid hc
                  clear hc hzo
                  go_wp2_with (go_at_call 158; refine HC.out.mono ?_; rintro e w3 ⟨rfl, hB3⟩)
                  go_ret
                  exact ⟨ret_bool HF.out.symm, hBwc.trans ((hB2.mono (by omega)).trans ((Below.after hB3).mono (by omega)))⟩
                · rw [hzo] at hc
                  have HNX := Lib.hid (show exprsOk (y.args.take (q + 1)) = true by rw [HS2.out, HOK2.out, hzo]; rfl)
                  have HC := Lib.hid hc
                  clear hc hzo
                  go_wp2_with (go_at_call 158; refine HC.out.mono ?_; rintro e w3 ⟨rfl, hB3⟩)
                  go_roundw
                  case rel =>
                    (repeat apply Exists.intro)
                    exact ⟨⟨q + 1, by omega, by go_num, HNX.out, hB2.trans ((Below.after hB3).mono (by omega))⟩, rfl⟩
                  case measure => simp [intOf]; omega
              · have hq2 : q = y.args.length := by omega
                subst hq2
                have hex : exprsOk y.args = true := by have := HOK2.out; rwa [List.take_length] at this
                have HY3 := Lib.hid (show stmtOk y = (stmtsOk y.body && stmtsOk y.els) by rw [HY2.out, hex]; rfl)
                clear hex HY2 hlt2 hq
                have b4 := cell_later e4 hB2
                have b5 := cell_later e5 hB2
                have hfin : Below w.heap.size w wr' := hBwc.trans (hB2.mono (by omega))
                have hfs := hfin.size
                clear e3 e4 e5
                have hc1' := ih y.body _ N wr' hsz1 (hBo'.lift (hB2.mono (by omega))) (by omega)
                cases hob : stmtsOk y.body
                · rw [hob] at hc1'
                  have HF := Lib.hid (show stmtsOk l = false from stmtsOk_bad HM.out (by rw [HY3.out, hob]; rfl))
                  have HC1 := Lib.hid hc1'
                  clear hob hc1'
                  go_wp2_with (go_at_call 123; refine HC1.out.mono ?_; rintro e w3 ⟨rfl, hB3⟩)
                  go_ret
                  exact ⟨ret_bool HF.out.symm, hfin.trans (hB3.mono (by omega))⟩
                · rw [hob] at hc1'
                  have HC1 := Lib.hid hc1'
                  clear hc1'
                  cases hoe : stmtsOk y.els
                  · have HF := Lib.hid (show stmtsOk l = false from stmtsOk_bad HM.out (by rw [HY3.out, hob, hoe]; rfl))
                    have HOE := Lib.hid hoe
                    clear hob hoe
                    go_wp2_with (first
                      | (go_at_call 123; refine (HC2.out).mono ?_; rintro e w4 ⟨rfl, hB4⟩)
                      | (go_at_call 123; refine HC1.out.mono ?_; rintro e w3 ⟨rfl, hB3⟩; have hs3 := hB3.size; have k5 := cell_later b5 hB3; have hc2' := ih y.els _ N w3 hsz2 ((hEl'.lift (hB2.mono (by omega))).lift (hB3.mono (by omega))) (by omega); rw [HOE.out] at hc2'; have HC2 := Lib.hid hc2'; clear hc2'))
                    go_ret
                    exact ⟨ret_bool HF.out.symm, hfin.trans ((hB3.mono (by omega)).trans (hB4.mono (by omega)))⟩
                  · have HNX := Lib.hid (show stmtsOk (l.take (k + 1)) = true by rw [HS.out, HOK.out, HY3.out, hob, hoe]; rfl)
                    have HOE := Lib.hid hoe
                    clear hob hoe
                    go_wp2_with (first
                      | (go_at_call 123; refine (HC2.out).mono ?_; rintro e w4 ⟨rfl, hB4⟩)
                      | (go_at_call 123; refine HC1.out.mono ?_; rintro e w3 ⟨rfl, hB3⟩; have hs3 := hB3.size; have k5 := cell_later b5 hB3; have hc2' := ih y.els _ N w3 hsz2 ((hEl'.lift (hB2.mono (by omega))).lift (hB3.mono (by omega))) (by omega); rw [HOE.out] at hc2'; have HC2 := Lib.hid hc2'; clear hc2'))
                    go_roundw
                    case rel =>
                      exact ⟨k + 1, by omega, by go_num, HNX.out, hfin.trans ((hB3.mono (by omega)).trans (hB4.mono (by omega)))⟩
                    case measure => simp [intOf]; omega
      · have : k = l.length := by omega
        subst this
        have hfin : stmtsOk l = true := by have := HOK.out; rwa [List.take_length] at this
        have HF := Lib.hid hfin
        clear hfin
        go_wp2_with fail
        go_ret
        exact ⟨ret_bool HF.out.symm, hB⟩
end Go.Proofs.YtkfdnlfkomhmfaaGreatDoor
