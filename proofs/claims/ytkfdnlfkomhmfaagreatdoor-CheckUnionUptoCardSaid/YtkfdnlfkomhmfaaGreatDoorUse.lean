/- The texts of the diagnostics; use and expr. -/
import Derived.Test.YtkfdnlfkomhmfaaGreatDoorRep
namespace Go.Proofs.YtkfdnlfkomhmfaaGreatDoor
open Go.RowKit
set_option linter.unusedVariables false
set_option linter.unusedSimpArgs false

abbrev tUndef : ByteArray := ⟨#[117, 110, 100, 101, 102, 105, 110, 101, 100, 32, 110, 97, 109, 101]⟩
abbrev tNotValue : ByteArray := ⟨#[110, 111, 116, 32, 97, 32, 118, 97, 108, 117, 101]⟩
abbrev tNotArray : ByteArray := ⟨#[110, 111, 116, 32, 97, 110, 32, 97, 114, 114, 97, 121]⟩
abbrev tNotSensor : ByteArray := ⟨#[110, 111, 116, 32, 97, 32, 115, 101, 110, 115, 111, 114]⟩
abbrev tDup : ByteArray := ⟨#[100, 117, 112, 108, 105, 99, 97, 116, 101, 32, 110, 97, 109, 101]⟩
abbrev tNotVar : ByteArray := ⟨#[110, 111, 116, 32, 97, 32, 118, 97, 114, 105, 97, 98, 108, 101]⟩
abbrev tNotChan : ByteArray := ⟨#[110, 111, 116, 32, 97, 32, 99, 104, 97, 110, 110, 101, 108]⟩
abbrev tNotOut : ByteArray := ⟨#[110, 111, 116, 32, 97, 110, 32, 111, 117, 116, 112, 117, 116]⟩
abbrev tRepeat : ByteArray := ⟨#[105, 110, 118, 97, 108, 105, 100, 32, 114, 101, 112, 101, 97, 116, 32, 99, 111, 117, 110, 116]⟩
abbrev tIter : ByteArray := ⟨#[116, 111, 111, 32, 109, 97, 110, 121, 32, 105, 116, 101, 114, 97, 116, 105, 111, 110, 115]⟩
abbrev tTime : ByteArray := ⟨#[105, 110, 118, 97, 108, 105, 100, 32, 116, 105, 109, 101]⟩
abbrev tNested : ByteArray := ⟨#[110, 101, 115, 116, 101, 100, 32, 116, 105, 109, 101, 100, 32, 98, 108, 111, 99, 107]⟩
abbrev tNoRead : ByteArray := ⟨#[110, 111, 32, 114, 101, 97, 100, 105, 110, 103]⟩
abbrev tFewer : ByteArray := ⟨#[102, 101, 119, 101, 114, 32, 116, 104, 97, 110, 32, 116, 119, 111, 32, 114, 101, 97, 100, 105, 110, 103, 115]⟩
abbrev tLoop : ByteArray := ⟨#[108, 111, 111, 112, 32, 110, 111, 116, 32, 97, 108, 108, 111, 119, 101, 100]⟩
abbrev tCheck : ByteArray := ⟨#[99, 104, 101, 99, 107, 112, 111, 105, 110, 116, 32, 110, 111, 116, 32, 97, 108, 108, 111, 119, 101, 100]⟩
abbrev tLen : ByteArray := ⟨#[105, 110, 118, 97, 108, 105, 100, 32, 97, 114, 114, 97, 121, 32, 108, 101, 110, 103, 116, 104]⟩
abbrev tInit : ByteArray := ⟨#[105, 110, 118, 97, 108, 105, 100, 32, 105, 110, 105, 116, 105, 97, 108, 32, 118, 97, 108, 117, 101]⟩
abbrev tData : ByteArray := ⟨#[116, 111, 111, 32, 109, 117, 99, 104, 32, 100, 97, 116, 97]⟩
abbrev tCap : ByteArray := ⟨#[105, 110, 118, 97, 108, 105, 100, 32, 99, 97, 112, 97, 99, 105, 116, 121]⟩
abbrev tTrig : ByteArray := ⟨#[105, 110, 118, 97, 108, 105, 100, 32, 116, 114, 105, 103, 103, 101, 114]⟩
abbrev tUnkChan : ByteArray := ⟨#[117, 110, 107, 110, 111, 119, 110, 32, 99, 104, 97, 110, 110, 101, 108]⟩
abbrev tSecond : ByteArray := ⟨#[115, 101, 99, 111, 110, 100, 32, 99, 111, 110, 115, 117, 109, 101, 114]⟩
abbrev tDeadline : ByteArray := ⟨#[105, 110, 118, 97, 108, 105, 100, 32, 100, 101, 97, 100, 108, 105, 110, 101]⟩
abbrev tWithin : ByteArray := ⟨#[105, 110, 118, 97, 108, 105, 100, 32, 119, 105, 116, 104, 105, 110]⟩
abbrev tVars : ByteArray := ⟨#[116, 111, 111, 32, 109, 97, 110, 121, 32, 118, 97, 114, 105, 97, 98, 108, 101, 115]⟩
abbrev tSensors : ByteArray := ⟨#[116, 111, 111, 32, 109, 97, 110, 121, 32, 115, 101, 110, 115, 111, 114, 115]⟩
abbrev tOutputs : ByteArray := ⟨#[116, 111, 111, 32, 109, 97, 110, 121, 32, 111, 117, 116, 112, 117, 116, 115]⟩
abbrev tChans : ByteArray := ⟨#[116, 111, 111, 32, 109, 97, 110, 121, 32, 99, 104, 97, 110, 110, 101, 108, 115]⟩
abbrev tTasks : ByteArray := ⟨#[116, 111, 111, 32, 109, 97, 110, 121, 32, 116, 97, 115, 107, 115]⟩
abbrev tMalformed : ByteArray := ⟨#[109, 97, 108, 102, 111, 114, 109, 101, 100, 32, 112, 114, 111, 103, 114, 97, 109]⟩

def useR (p : Prog) (ls : List ByteArray) (x : ByteArray) (pos : Int) (text : ByteArray) (ks : List Int) : List Diag :=
  rep (kindV p ls x == 0) pos tUndef ++ rep (kindV p ls x != 0 && !decide (kindV p ls x ∈ ks)) pos text
theorem useR_len (p : Prog) (ls : List ByteArray) (x : ByteArray) (pos : Int) (text : ByteArray) (ks : List Int) : (useR p ls x pos text ks).length ≤ 2 := by
  unfold useR
  rw [List.length_append]
  have := rep_len (kindV p ls x == 0) pos tUndef
  have := rep_len (kindV p ls x != 0 && !decide (kindV p ls x ∈ ks)) pos text
  omega
theorem rep_add_len (s : CkS) (bad : Bool) (pos : Int) (text : ByteArray) : (s.add (rep bad pos text)).out.length ≤ s.out.length + 1 := by
  have := CkS.add_len s (rep bad pos text)
  have := rep_len bad pos text
  omega
theorem Lcl.ints {i j b : Nat} {w : World} {kb : Nat} {ks : List Int} {T : TypeId} (h : Lcl i j b w kb (ks.map (Value.int .i64)).toArray T) (hl : ks.length ≤ 1000) : IntsAt (kb + 1) w (.slice (some ⟨kb, 0, none⟩) ks.length ks.length) ks := by
  refine ⟨_, _, rfl, Nat.le_refl _, by omega, by omega, fun _ => ⟨kb, 0, rfl, by omega, fun m hm => ⟨rfl, fun o v hv => ?_⟩⟩⟩
  cases o with
  | zero =>
    simp [intCells] at hv
    subst hv
    refine h.cell ?_
    simp [List.getElem?_eq_getElem hm]
  | succ o => simp [intCells] at hv

set_option maxHeartbeats 1000000 in
theorem use_any {K : CkK} {w : World} {b : Nat} {s : CkS} (h : Chk K w b s) (x : ByteArray) (pos : Int) (text : ByteArray) (ks : List Int) (n : Nat) (hn : n = ks.length) (kb : Nat) (T : TypeId)
    (hL : Lcl 7 8 b w kb (ks.map (Value.int .i64)).toArray T) (hks : ks.length ≤ 1000) (hl : s.out.length + (useR K.p s.locals x pos text ks).length ≤ 1000000) (hll : s.locals.length ≤ 1000000) :
    Calls Tryz.prog 115 #[.pointer (some ⟨b, 0, none⟩), .string x, .int .i64 pos, .string text, .slice (some ⟨kb, 0, none⟩) n n] w fun e w' =>
      e = .returned (.tuple #[]) ∧ Chk K w' b (s.add (useR K.p s.locals x pos text ks)) ∧ CMut b w w' := by
  subst hn
  have HK := Lib.hid (fun (ls : List ByteArray) => kind_any h x hll)
  have hU : useR K.p s.locals x pos text ks = rep (kindV K.p s.locals x == 0) pos tUndef ++ rep (kindV K.p s.locals x != 0 && !decide (kindV K.p s.locals x ∈ ks)) pos text := rfl
  rw [hU, List.length_append] at hl
  generalize kindV K.p s.locals x = kv at HK hU hl
  have HU := Lib.hid hU
  clear hU
  by_cases q : kv = 0
  · have t1 : (kv == 0) = true := beq_iff_eq.2 q
    have t2 : (kv != 0) = false := by simp [bne, t1]
    rw [t1] at hl
    have hl1 : s.out.length + 1 ≤ 1000000 := by have : (rep true pos tUndef).length = 1 := rfl; omega
    clear q hl
    go_enter Tryz.func115, Tryz.ntmps115
    go_wp2_with (first
      | (go_at_call 114; refine (HK.out []).mono ?_; rintro e w' ⟨rfl, rfl⟩)
      | (go_at_call 68; refine (report_any h _ _ _ (by omega)).mono ?_; rintro e w1 ⟨rfl, hC1, hM1⟩)
      | (go_at_call 68; refine (report_any hC1 _ _ _ (Nat.le_trans (rep_add_len s _ _ _) (by omega))).mono ?_; rintro e w2 ⟨rfl, hC2, hM2⟩))
    go_end0
    refine ⟨rfl, ?_, hM1.trans hM2⟩
    rw [HU.out, t1, t2, CkS.add_app]
    exact hC2
  · have t1 : (kv == 0) = false := beq_eq_false_iff_ne.2 q
    have t2 : (kv != 0) = true := by simp [bne, t1]
    have hl1 : s.out.length ≤ 1000000 := by omega
    have hl2 : ∀ t, (s.add (rep false pos t)).out.length ≤ 1000000 := fun t => hl1
    clear q hl
    go_enter Tryz.func115, Tryz.ntmps115
    go_wp2_with (first
      | (go_at_call 114; refine (HK.out []).mono ?_; rintro e w' ⟨rfl, rfl⟩)
      | (go_at_call 68; refine (report_any h _ _ _ (by omega)).mono ?_; rintro e w1 ⟨rfl, hC1, hM1⟩; have hI := Lib.hid ((hL.mut hM1).ints hks))
      | (go_at_call 98; refine (ContainsI_any _ _ _ _ ks kv _ hI.out rfl).mono ?_; rintro e w3 ⟨rfl, rfl⟩)
      | (go_at_call 68; refine (report_any hC1 _ _ _ (by first | exact hl2 _ | (rw [t1]; exact hl2 _))).mono ?_; rintro e w2 ⟨rfl, hC2, hM2⟩))
    go_end0
    refine ⟨rfl, ?_, hM1.trans hM2⟩
    rw [HU.out, t1, t2, CkS.add_app]
    exact hC2
end Go.Proofs.YtkfdnlfkomhmfaaGreatDoor
