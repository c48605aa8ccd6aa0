/- Identifiers: the reference's Ident and the program's identifier answer alike. -/
import Derived.Test.YtkfdnlfkomhmfaaGreatDoorStr
namespace Go.Proofs.YtkfdnlfkomhmfaaGreatDoor
open Go.RowKit
set_option linter.unusedVariables false
set_option linter.unusedSimpArgs false

/-- a letter; or, not at the start, a digit -/
def okCh (i c : Nat) : Prop := (97 ≤ c ∧ c ≤ 122) ∨ (65 ≤ c ∧ c ≤ 90) ∨ c = 95 ∨ (i ≠ 0 ∧ 48 ≤ c ∧ c ≤ 57)
instance (i c : Nat) : Decidable (okCh i c) := by unfold okCh; exact inferInstance
def chars (s : ByteArray) : Prop := ∀ i (h : i < s.size), okCh i s[i].toNat
instance (s : ByteArray) : Decidable (chars s) := by unfold chars; exact inferInstance
def identP (s : ByteArray) : Prop := s ∉ kws ∧ chars s ∧ 1 ≤ s.size ∧ s.size ≤ 32
instance (s : ByteArray) : Decidable (identP s) := by unfold identP; exact inferInstance
def ident (s : ByteArray) : Bool := decide (identP s)

set_option maxRecDepth 100000 in
theorem chClass (c : Nat) (hc : c < 256) : ((0 ≤ c ∧ c ≤ 47) ∧ decide (97 ≤ (c : Int)) = false ∧ decide ((c : Int) ≤ 122) = true ∧ decide (65 ≤ (c : Int)) = false ∧ decide ((c : Int) ≤ 90) = true ∧ ((c : Int) == 95) = false ∧ decide ((c : Int) < 48) = true ∧ decide (57 < (c : Int)) = false) ∨
    ((48 ≤ c ∧ c ≤ 57) ∧ decide (97 ≤ (c : Int)) = false ∧ decide ((c : Int) ≤ 122) = true ∧ decide (65 ≤ (c : Int)) = false ∧ decide ((c : Int) ≤ 90) = true ∧ ((c : Int) == 95) = false ∧ decide ((c : Int) < 48) = false ∧ decide (57 < (c : Int)) = false) ∨
    ((58 ≤ c ∧ c ≤ 64) ∧ decide (97 ≤ (c : Int)) = false ∧ decide ((c : Int) ≤ 122) = true ∧ decide (65 ≤ (c : Int)) = false ∧ decide ((c : Int) ≤ 90) = true ∧ ((c : Int) == 95) = false ∧ decide ((c : Int) < 48) = false ∧ decide (57 < (c : Int)) = true) ∨
    ((65 ≤ c ∧ c ≤ 90) ∧ decide (97 ≤ (c : Int)) = false ∧ decide ((c : Int) ≤ 122) = true ∧ decide (65 ≤ (c : Int)) = true ∧ decide ((c : Int) ≤ 90) = true ∧ ((c : Int) == 95) = false ∧ decide ((c : Int) < 48) = false ∧ decide (57 < (c : Int)) = true) ∨
    ((91 ≤ c ∧ c ≤ 94) ∧ decide (97 ≤ (c : Int)) = false ∧ decide ((c : Int) ≤ 122) = true ∧ decide (65 ≤ (c : Int)) = true ∧ decide ((c : Int) ≤ 90) = false ∧ ((c : Int) == 95) = false ∧ decide ((c : Int) < 48) = false ∧ decide (57 < (c : Int)) = true) ∨
    ((95 ≤ c ∧ c ≤ 95) ∧ decide (97 ≤ (c : Int)) = false ∧ decide ((c : Int) ≤ 122) = true ∧ decide (65 ≤ (c : Int)) = true ∧ decide ((c : Int) ≤ 90) = false ∧ ((c : Int) == 95) = true ∧ decide ((c : Int) < 48) = false ∧ decide (57 < (c : Int)) = true) ∨
    ((96 ≤ c ∧ c ≤ 96) ∧ decide (97 ≤ (c : Int)) = false ∧ decide ((c : Int) ≤ 122) = true ∧ decide (65 ≤ (c : Int)) = true ∧ decide ((c : Int) ≤ 90) = false ∧ ((c : Int) == 95) = false ∧ decide ((c : Int) < 48) = false ∧ decide (57 < (c : Int)) = true) ∨
    ((97 ≤ c ∧ c ≤ 122) ∧ decide (97 ≤ (c : Int)) = true ∧ decide ((c : Int) ≤ 122) = true ∧ decide (65 ≤ (c : Int)) = true ∧ decide ((c : Int) ≤ 90) = false ∧ ((c : Int) == 95) = false ∧ decide ((c : Int) < 48) = false ∧ decide (57 < (c : Int)) = true) ∨
    ((123 ≤ c ∧ c ≤ 255) ∧ decide (97 ≤ (c : Int)) = true ∧ decide ((c : Int) ≤ 122) = false ∧ decide (65 ≤ (c : Int)) = true ∧ decide ((c : Int) ≤ 90) = false ∧ ((c : Int) == 95) = false ∧ decide ((c : Int) < 48) = false ∧ decide (57 < (c : Int)) = true) := by
  rcases (show (0 ≤ c ∧ c ≤ 47) ∨ (48 ≤ c ∧ c ≤ 57) ∨ (58 ≤ c ∧ c ≤ 64) ∨ (65 ≤ c ∧ c ≤ 90) ∨ (91 ≤ c ∧ c ≤ 94) ∨ (95 ≤ c ∧ c ≤ 95) ∨ (96 ≤ c ∧ c ≤ 96) ∨ (97 ≤ c ∧ c ≤ 122) ∨ (123 ≤ c ∧ c ≤ 255) by omega) with h | h | h | h | h | h | h | h | h
  · refine Or.inl ⟨h, ?_, ?_, ?_, ?_, ?_, ?_, ?_⟩
    all_goals first | (refine decide_eq_true ?_; omega) | (refine decide_eq_false ?_; omega) | (refine beq_eq_false_iff_ne.2 ?_; omega) | (refine beq_iff_eq.2 ?_; omega)
  · refine Or.inr (Or.inl ⟨h, ?_, ?_, ?_, ?_, ?_, ?_, ?_⟩)
    all_goals first | (refine decide_eq_true ?_; omega) | (refine decide_eq_false ?_; omega) | (refine beq_eq_false_iff_ne.2 ?_; omega) | (refine beq_iff_eq.2 ?_; omega)
  · refine Or.inr (Or.inr (Or.inl ⟨h, ?_, ?_, ?_, ?_, ?_, ?_, ?_⟩))
    all_goals first | (refine decide_eq_true ?_; omega) | (refine decide_eq_false ?_; omega) | (refine beq_eq_false_iff_ne.2 ?_; omega) | (refine beq_iff_eq.2 ?_; omega)
  · refine Or.inr (Or.inr (Or.inr (Or.inl ⟨h, ?_, ?_, ?_, ?_, ?_, ?_, ?_⟩)))
    all_goals first | (refine decide_eq_true ?_; omega) | (refine decide_eq_false ?_; omega) | (refine beq_eq_false_iff_ne.2 ?_; omega) | (refine beq_iff_eq.2 ?_; omega)
  · refine Or.inr (Or.inr (Or.inr (Or.inr (Or.inl ⟨h, ?_, ?_, ?_, ?_, ?_, ?_, ?_⟩))))
    all_goals first | (refine decide_eq_true ?_; omega) | (refine decide_eq_false ?_; omega) | (refine beq_eq_false_iff_ne.2 ?_; omega) | (refine beq_iff_eq.2 ?_; omega)
  · refine Or.inr (Or.inr (Or.inr (Or.inr (Or.inr (Or.inl ⟨h, ?_, ?_, ?_, ?_, ?_, ?_, ?_⟩)))))
    all_goals first | (refine decide_eq_true ?_; omega) | (refine decide_eq_false ?_; omega) | (refine beq_eq_false_iff_ne.2 ?_; omega) | (refine beq_iff_eq.2 ?_; omega)
  · refine Or.inr (Or.inr (Or.inr (Or.inr (Or.inr (Or.inr (Or.inl ⟨h, ?_, ?_, ?_, ?_, ?_, ?_, ?_⟩))))))
    all_goals first | (refine decide_eq_true ?_; omega) | (refine decide_eq_false ?_; omega) | (refine beq_eq_false_iff_ne.2 ?_; omega) | (refine beq_iff_eq.2 ?_; omega)
  · refine Or.inr (Or.inr (Or.inr (Or.inr (Or.inr (Or.inr (Or.inr (Or.inl ⟨h, ?_, ?_, ?_, ?_, ?_, ?_, ?_⟩)))))))
    all_goals first | (refine decide_eq_true ?_; omega) | (refine decide_eq_false ?_; omega) | (refine beq_eq_false_iff_ne.2 ?_; omega) | (refine beq_iff_eq.2 ?_; omega)
  · refine Or.inr (Or.inr (Or.inr (Or.inr (Or.inr (Or.inr (Or.inr (Or.inr (⟨h, ?_, ?_, ?_, ?_, ?_, ?_, ?_⟩))))))))
    all_goals first | (refine decide_eq_true ?_; omega) | (refine decide_eq_false ?_; omega) | (refine beq_eq_false_iff_ne.2 ?_; omega) | (refine beq_iff_eq.2 ?_; omega)

theorem ident_false {s : ByteArray} (h : ¬ identP s) : ident s = false := by simp [ident, h]
theorem ident_true {s : ByteArray} (h : identP s) : ident s = true := by simp [ident, h]

set_option maxHeartbeats 4000000 in
theorem Ident_any (s : ByteArray) (w : World) (hs : Str s) : Calls Tryz.prog 84 #[.string s] w fun e w' => e = .returned (.bool (ident s)) ∧ Below w.heap.size w w' := by
  unfold Str at hs
  go_enter Tryz.func84, Tryz.ntmps84
  go_wp2_with (go_at_call 122; refine (Keywords_any _).mono ?_; rintro e w1 ⟨v, rfl, hO, hB⟩; obtain ⟨oa, cap, rfl, h1, h2⟩ := hO.slice; have hS := OwnAt.flat hO str_len (by decide); have hl := Lib.hid (show kws.length = 22 from rfl); generalize hL : kws = L at *; clear hO)
  go_loop [10] (fun i => ∃ k : Nat, k ≤ L.length ∧ i = .int .i64 k ∧ ∀ j : Nat, j < k → L[j]? ≠ some s) (fun i => L.length - (intOf i).toNat)
  case atStart => exact ⟨0, Nat.zero_le _, rfl, fun j hj => by omega⟩
  case round =>
    obtain ⟨k, hk, rfl, hno⟩ := hrel
    have HN := Lib.hid hno
    have HL := Lib.hid hL
    clear hno hL
    have hL22 : L.length ≤ 22 := by rw [hl.out]; omega
    by_cases hlt : k < L.length
    · obtain ⟨x, b, off, hx, rfl, hb, c0⟩ := StrsAt.at hS hlt
      have HX := Lib.hid hx
      clear hx
      by_cases hv : s = x
      · subst hv
        have hvb := ba_eq (rfl : s = s)
        go_wp2_with fail
        go_ret
        exact ⟨ret_bool (ident_false fun h => h.1 (by rw [HL.out]; exact List.mem_of_getElem? HX.out)).symm, hB⟩
      · have hvb := ba_ne hv
        have HV := Lib.hid hv
        clear hv
        go_wp2_with fail
        go_round
        case rel =>
          refine ⟨k + 1, by omega, by go_num, fun j hj => ?_⟩
          by_cases e : j = k
          · subst e; rw [HX.out]; intro h; cases h; exact HV.out rfl
          · exact HN.out j (by omega)
        case measure => simp [intOf]; omega
    · have hk2 : k = L.length := by omega
      have hnot : s ∉ kws := by
        intro h
        rw [HL.out] at h
        obtain ⟨j, hj⟩ := List.getElem?_of_mem h
        exact absurd hj (HN.out j (by rw [hk2]; exact (List.getElem?_eq_some_iff.1 hj).1))
      have HNot := Lib.hid hnot
      clear hnot
      subst hk2
      go_wp2_with fail
      go_loop [5] (fun i => ∃ k : Nat, k ≤ s.size ∧ i = .int .i64 k ∧ ∀ j (h : j < s.size), j < k → okCh j s[j].toNat) (fun i => s.size - (intOf i).toNat)
      case atStart => exact ⟨0, Nat.zero_le _, rfl, fun j _ hj => by omega⟩
      case round =>
        obtain ⟨k, hk, rfl, hall⟩ := hrel
        have HA := Lib.hid hall
        clear hall
        by_cases hlt2 : k < s.size
        · have hc : s[k].toNat < 256 := s[k].toNat_lt
          rcases Nat.eq_zero_or_pos k with hk0 | hk0
          · subst hk0
            rcases chClass s[0].toNat hc with hcl | hcl | hcl | hcl | hcl | hcl | hcl | hcl | hcl
            all_goals
              obtain ⟨hcl, t1, t2, t3, t4, t5, t6, t7⟩ := hcl
              go_wp2_with fail
              all_goals first
              | (go_ret
                 refine ⟨ret_bool (ident_false fun h => ?_).symm, hB⟩
                 have := h.2.1 0 hlt2
                 unfold okCh at this
                 omega)
              | (go_round
                 case rel =>
                    refine ⟨1, by omega, by go_num, fun j hj1 hj => ?_⟩
                    obtain rfl : j = 0 := by omega
                    unfold okCh; omega
                 case measure => simp [intOf]; omega)
          · have hkb : ((k : Int) == 0) = false := beq_eq_false_iff_ne.2 (by omega)
            rcases chClass s[k].toNat hc with hcl | hcl | hcl | hcl | hcl | hcl | hcl | hcl | hcl
            all_goals
              obtain ⟨hcl, t1, t2, t3, t4, t5, t6, t7⟩ := hcl
              go_wp2_with fail
              all_goals first
              | (go_ret
                 refine ⟨ret_bool (ident_false fun h => ?_).symm, hB⟩
                 have := h.2.1 k hlt2
                 unfold okCh at this
                 omega)
              | (go_round
                 case rel =>
                    refine ⟨k + 1, by omega, by go_num, fun j hj1 hj => ?_⟩
                    by_cases e : j = k
                    · subst e; unfold okCh; omega
                    · exact HA.out j hj1 (by omega)
                 case measure => simp [intOf]; omega)
        · have hk3 : k = s.size := by omega
          have hch : chars s := fun i h => HA.out i h (by omega)
          have HC := Lib.hid hch
          clear hch
          subst hk3
          by_cases h0 : 1 ≤ s.size
          · by_cases h32 : s.size ≤ 32
            · go_wp2_with fail
              go_ret
              exact ⟨ret_bool (by rw [ident_true ⟨HNot.out, HC.out, h0, h32⟩]; exact decide_eq_true (by omega)), hB⟩
            · go_wp2_with fail
              go_ret
              exact ⟨ret_bool (by rw [ident_false fun h => h32 h.2.2.2]; exact decide_eq_false (by omega)), hB⟩
          · go_wp2_with fail
            go_ret
            exact ⟨ret_bool (ident_false fun h => h0 h.2.2.1).symm, hB⟩

set_option maxHeartbeats 4000000 in
theorem identifier_any (s : ByteArray) (w : World) (hs : Str s) (hT : SpaceTab w) : Calls Tryz.prog 58 #[.string s] w fun e w' => e = .returned (.bool (ident s)) ∧ Below w.heap.size w w' := by
  unfold Str at hs
  have hB := Below.refl w.heap.size w
  have HT := Lib.hid hT
  clear hT
  go_enter Tryz.func58, Tryz.ntmps58
  go_wp2_with fail
  go_loop [8] (fun i => ∃ k : Nat, k ≤ s.size ∧ i = .int .i64 k ∧ ∀ j (h : j < s.size), j < k → okCh j s[j].toNat) (fun i => s.size - (intOf i).toNat)
  case atStart => exact ⟨0, Nat.zero_le _, rfl, fun j _ hj => by omega⟩
  case round =>
    obtain ⟨k, hk, rfl, hall⟩ := hrel
    have HA := Lib.hid hall
    clear hall
    by_cases hlt2 : k < s.size
    · have hc : s[k].toNat < 256 := s[k].toNat_lt
      rcases Nat.eq_zero_or_pos k with hk0 | hk0
      · subst hk0
        rcases chClass s[0].toNat hc with hcl | hcl | hcl | hcl | hcl | hcl | hcl | hcl | hcl
        all_goals
          obtain ⟨hcl, t1, t2, t3, t4, t5, t6, t7⟩ := hcl
          go_wp2_with fail
          all_goals first
          | (go_ret
             refine ⟨ret_bool (ident_false fun h => ?_).symm, hB⟩
             have := h.2.1 0 hlt2
             unfold okCh at this
             omega)
          | (go_round
             case rel =>
                refine ⟨1, by omega, by go_num, fun j hj1 hj => ?_⟩
                obtain rfl : j = 0 := by omega
                unfold okCh; omega
             case measure => simp [intOf]; omega)
      · have hkb : ((k : Int) == 0) = false := beq_eq_false_iff_ne.2 (by omega)
        rcases chClass s[k].toNat hc with hcl | hcl | hcl | hcl | hcl | hcl | hcl | hcl | hcl
        all_goals
          obtain ⟨hcl, t1, t2, t3, t4, t5, t6, t7⟩ := hcl
          go_wp2_with fail
          all_goals first
          | (go_ret
             refine ⟨ret_bool (ident_false fun h => ?_).symm, hB⟩
             have := h.2.1 k hlt2
             unfold okCh at this
             omega)
          | (go_round
             case rel =>
                refine ⟨k + 1, by omega, by go_num, fun j hj1 hj => ?_⟩
                by_cases e : j = k
                · subst e; unfold okCh; omega
                · exact HA.out j hj1 (by omega)
             case measure => simp [intOf]; omega)
    · have hk3 : k = s.size := by omega
      have hch : chars s := fun i h => HA.out i h (by omega)
      have HC := Lib.hid hch
      clear hch
      subst hk3
      by_cases h0 : s = ⟨#[]⟩
      · subst h0
        go_wp2_with fail
        go_ret
        exact ⟨ret_bool (ident_false fun h => absurd h.2.2.1 (by decide)).symm, hB⟩
      · have hz := ba_nonempty h0
        have hsz : 1 ≤ s.size := by
          rcases Nat.eq_zero_or_pos s.size with h | h
          · exact absurd (ByteArray.ext (Array.eq_empty_of_size_eq_zero h)) h0
          · omega
        have H0 := Lib.hid h0
        clear h0
        by_cases h32 : s.size ≤ 32
        · go_wp2_with (first
            | (go_at_call 106; refine (keywords_any _ HT.out).mono ?_; rintro e w1 ⟨v, rfl, hO, hB1⟩; obtain ⟨oa, cap, rfl, _, _⟩ := hO.slice; have hS := OwnAt.flat hO str_len (by decide); clear hO)
            | (go_at_call 105; refine (ContainsS_any _ _ _ _ _ _ _ hS rfl).mono ?_; rintro e w' ⟨rfl, rfl⟩))
          go_ret
          refine ⟨ret_bool ?_, hB1⟩
          by_cases hkw : s ∈ kws
          · rw [ident_false fun h => h.1 hkw]; simp [hkw]
          · rw [ident_true ⟨hkw, HC.out, hsz, h32⟩]; simp [hkw]
        · go_wp2_with fail
          go_ret
          exact ⟨ret_bool (ident_false fun h => h32 h.2.2.2).symm, hB⟩
end Go.Proofs.YtkfdnlfkomhmfaaGreatDoor
