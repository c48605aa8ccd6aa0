/-
  NARROWER THAN 'FOR EVERY INPUT', by the rows' own cells (each row's printed sentence says how): CheckDiagnostics: loops, laid · CheckLookup: loops, laid · CheckConstValue: loops, laid · CheckPositions: loops, laid · CheckTasks: loops, laid · CheckAccesses: loops, laid · CheckUnion: loops, laid.
  DERIVED. THE GIVEN ROWS OF THIS SEAT. 7 by the template 'for every input the law returns true; each argument reads behind the call as it read before'; 0 by the template 'total and deterministic' (their statements: YtkfdnlfkomhmfaaGreatDoorTotals.lean).
  GIVEN WITH THE SEED: the statements are not yours to turn. If you find one false, say at which input.
  Laid BY PROGRAM, IN A SANDBOX (cutbox-rows.mjs): the forced cells as the released guide's own fill.sh prints them over the translation 27ce77e5107e9f16… (all of the seat's roots in one cut). By AI agents, Wed Nov 11 2026. No macro, syntax, notation, axiom, sorry.
-/
import Derived.Test.YtkfdnlfkomhmfaaGreatDoorChecked
import GoSem.Claim
import GoSem.ClaimJoined
import GoSem.ClaimMapViews
import Derived.JoinedTies
import Derived.KernelRfl
namespace Go.Proofs.YtkfdnlfkomhmfaaGreatDoor
/- THE CELL 'sum', in the pinned program and in every row, IS THE sha256 OF THE DUMP (.gsa) THAT YtkfdnlfkomhmfaaGreatDoorProg.lean LOADS. Nothing in Lean hashes anything: it is a label: what it is worth is what the hold of that sum in a sandbox is worth. -/
noncomputable def Tryz.pinned : Pinned := { name := "ytkfdnlfkomhmfaagreatdoor", sum := "27ce77e5107e9f16db567389634a824c0dad8aac6a989e43cab1c83d5c99195d", checked := Tryz.checked }
namespace Rows
def none {H : Type} : Left H := { results := [], args := [] }

/- WHAT THE LISTED PACKAGE-LEVEL VARIABLES READ AS WHEN THE CALL BEGINS. Each datum BY PROGRAM (the guide's laid-datum.mjs) off the statement by which the dump's own 'gosem.cut.vars' lays the variable. In a bare row this is a premise. The card (YtkfdnlfkomhmfaaGreatDoorCards.lean) ties it to the program's text. -/
def laid_unicode_White_Space {H : Type} : DataW H := .ptr (.agg [.slice [.agg [.lit (.int .u16 9), .lit (.int .u16 13), .lit (.int .u16 1)], .agg [.lit (.int .u16 32), .lit (.int .u16 133), .lit (.int .u16 101)], .agg [.lit (.int .u16 160), .lit (.int .u16 5760), .lit (.int .u16 5600)], .agg [.lit (.int .u16 8192), .lit (.int .u16 8202), .lit (.int .u16 1)], .agg [.lit (.int .u16 8232), .lit (.int .u16 8233), .lit (.int .u16 1)], .agg [.lit (.int .u16 8239), .lit (.int .u16 8287), .lit (.int .u16 48)], .agg [.lit (.int .u16 12288), .lit (.int .u16 12288), .lit (.int .u16 1)]] [], .nil, .lit (.int .i64 2)])
def laid_strings_asciiSpace {H : Type} : DataW H := .agg [.lit (.int .u8 0), .lit (.int .u8 0), .lit (.int .u8 0), .lit (.int .u8 0), .lit (.int .u8 0), .lit (.int .u8 0), .lit (.int .u8 0), .lit (.int .u8 0), .lit (.int .u8 0), .lit (.int .u8 1), .lit (.int .u8 1), .lit (.int .u8 1), .lit (.int .u8 1), .lit (.int .u8 1), .lit (.int .u8 0), .lit (.int .u8 0), .lit (.int .u8 0), .lit (.int .u8 0), .lit (.int .u8 0), .lit (.int .u8 0), .lit (.int .u8 0), .lit (.int .u8 0), .lit (.int .u8 0), .lit (.int .u8 0), .lit (.int .u8 0), .lit (.int .u8 0), .lit (.int .u8 0), .lit (.int .u8 0), .lit (.int .u8 0), .lit (.int .u8 0), .lit (.int .u8 0), .lit (.int .u8 0), .lit (.int .u8 1), .lit (.int .u8 0), .lit (.int .u8 0), .lit (.int .u8 0), .lit (.int .u8 0), .lit (.int .u8 0), .lit (.int .u8 0), .lit (.int .u8 0), .lit (.int .u8 0), .lit (.int .u8 0), .lit (.int .u8 0), .lit (.int .u8 0), .lit (.int .u8 0), .lit (.int .u8 0), .lit (.int .u8 0), .lit (.int .u8 0), .lit (.int .u8 0), .lit (.int .u8 0), .lit (.int .u8 0), .lit (.int .u8 0), .lit (.int .u8 0), .lit (.int .u8 0), .lit (.int .u8 0), .lit (.int .u8 0), .lit (.int .u8 0), .lit (.int .u8 0), .lit (.int .u8 0), .lit (.int .u8 0), .lit (.int .u8 0), .lit (.int .u8 0), .lit (.int .u8 0), .lit (.int .u8 0), .lit (.int .u8 0), .lit (.int .u8 0), .lit (.int .u8 0), .lit (.int .u8 0), .lit (.int .u8 0), .lit (.int .u8 0), .lit (.int .u8 0), .lit (.int .u8 0), .lit (.int .u8 0), .lit (.int .u8 0), .lit (.int .u8 0), .lit (.int .u8 0), .lit (.int .u8 0), .lit (.int .u8 0), .lit (.int .u8 0), .lit (.int .u8 0), .lit (.int .u8 0), .lit (.int .u8 0), .lit (.int .u8 0), .lit (.int .u8 0), .lit (.int .u8 0), .lit (.int .u8 0), .lit (.int .u8 0), .lit (.int .u8 0), .lit (.int .u8 0), .lit (.int .u8 0), .lit (.int .u8 0), .lit (.int .u8 0), .lit (.int .u8 0), .lit (.int .u8 0), .lit (.int .u8 0), .lit (.int .u8 0), .lit (.int .u8 0), .lit (.int .u8 0), .lit (.int .u8 0), .lit (.int .u8 0), .lit (.int .u8 0), .lit (.int .u8 0), .lit (.int .u8 0), .lit (.int .u8 0), .lit (.int .u8 0), .lit (.int .u8 0), .lit (.int .u8 0), .lit (.int .u8 0), .lit (.int .u8 0), .lit (.int .u8 0), .lit (.int .u8 0), .lit (.int .u8 0), .lit (.int .u8 0), .lit (.int .u8 0), .lit (.int .u8 0), .lit (.int .u8 0), .lit (.int .u8 0), .lit (.int .u8 0), .lit (.int .u8 0), .lit (.int .u8 0), .lit (.int .u8 0), .lit (.int .u8 0), .lit (.int .u8 0), .lit (.int .u8 0), .lit (.int .u8 0), .lit (.int .u8 0), .lit (.int .u8 0), .lit (.int .u8 0), .lit (.int .u8 0), .lit (.int .u8 0), .lit (.int .u8 0), .lit (.int .u8 0), .lit (.int .u8 0), .lit (.int .u8 0), .lit (.int .u8 0), .lit (.int .u8 0), .lit (.int .u8 0), .lit (.int .u8 0), .lit (.int .u8 0), .lit (.int .u8 0), .lit (.int .u8 0), .lit (.int .u8 0), .lit (.int .u8 0), .lit (.int .u8 0), .lit (.int .u8 0), .lit (.int .u8 0), .lit (.int .u8 0), .lit (.int .u8 0), .lit (.int .u8 0), .lit (.int .u8 0), .lit (.int .u8 0), .lit (.int .u8 0), .lit (.int .u8 0), .lit (.int .u8 0), .lit (.int .u8 0), .lit (.int .u8 0), .lit (.int .u8 0), .lit (.int .u8 0), .lit (.int .u8 0), .lit (.int .u8 0), .lit (.int .u8 0), .lit (.int .u8 0), .lit (.int .u8 0), .lit (.int .u8 0), .lit (.int .u8 0), .lit (.int .u8 0), .lit (.int .u8 0), .lit (.int .u8 0), .lit (.int .u8 0), .lit (.int .u8 0), .lit (.int .u8 0), .lit (.int .u8 0), .lit (.int .u8 0), .lit (.int .u8 0), .lit (.int .u8 0), .lit (.int .u8 0), .lit (.int .u8 0), .lit (.int .u8 0), .lit (.int .u8 0), .lit (.int .u8 0), .lit (.int .u8 0), .lit (.int .u8 0), .lit (.int .u8 0), .lit (.int .u8 0), .lit (.int .u8 0), .lit (.int .u8 0), .lit (.int .u8 0), .lit (.int .u8 0), .lit (.int .u8 0), .lit (.int .u8 0), .lit (.int .u8 0), .lit (.int .u8 0), .lit (.int .u8 0), .lit (.int .u8 0), .lit (.int .u8 0), .lit (.int .u8 0), .lit (.int .u8 0), .lit (.int .u8 0), .lit (.int .u8 0), .lit (.int .u8 0), .lit (.int .u8 0), .lit (.int .u8 0), .lit (.int .u8 0), .lit (.int .u8 0), .lit (.int .u8 0), .lit (.int .u8 0), .lit (.int .u8 0), .lit (.int .u8 0), .lit (.int .u8 0), .lit (.int .u8 0), .lit (.int .u8 0), .lit (.int .u8 0), .lit (.int .u8 0), .lit (.int .u8 0), .lit (.int .u8 0), .lit (.int .u8 0), .lit (.int .u8 0), .lit (.int .u8 0), .lit (.int .u8 0), .lit (.int .u8 0), .lit (.int .u8 0), .lit (.int .u8 0), .lit (.int .u8 0), .lit (.int .u8 0), .lit (.int .u8 0), .lit (.int .u8 0), .lit (.int .u8 0), .lit (.int .u8 0), .lit (.int .u8 0), .lit (.int .u8 0), .lit (.int .u8 0), .lit (.int .u8 0), .lit (.int .u8 0), .lit (.int .u8 0), .lit (.int .u8 0), .lit (.int .u8 0), .lit (.int .u8 0), .lit (.int .u8 0), .lit (.int .u8 0), .lit (.int .u8 0), .lit (.int .u8 0), .lit (.int .u8 0), .lit (.int .u8 0), .lit (.int .u8 0), .lit (.int .u8 0), .lit (.int .u8 0), .lit (.int .u8 0), .lit (.int .u8 0), .lit (.int .u8 0), .lit (.int .u8 0), .lit (.int .u8 0), .lit (.int .u8 0), .lit (.int .u8 0), .lit (.int .u8 0), .lit (.int .u8 0), .lit (.int .u8 0)]
def laid_trickle_ast_statements {H : Type} : DataW H := .agg [.agg [.lit (.bool false), .lit (.bool false), .lit (.bool false), .lit (.bool false), .lit (.int .i64 0)], .agg [.lit (.bool true), .lit (.bool false), .lit (.bool false), .lit (.bool false), .lit (.int .i64 1)], .agg [.lit (.bool true), .lit (.bool false), .lit (.bool false), .lit (.bool false), .lit (.int .i64 1)], .agg [.lit (.bool true), .lit (.bool false), .lit (.bool false), .lit (.bool false), .lit (.int .i64 2)], .agg [.lit (.bool false), .lit (.bool false), .lit (.bool true), .lit (.bool true), .lit (.int .i64 1)], .agg [.lit (.bool false), .lit (.bool true), .lit (.bool true), .lit (.bool false), .lit (.int .i64 0)], .agg [.lit (.bool false), .lit (.bool false), .lit (.bool true), .lit (.bool false), .lit (.int .i64 1)], .agg [.lit (.bool true), .lit (.bool false), .lit (.bool false), .lit (.bool false), .lit (.int .i64 1)], .agg [.lit (.bool false), .lit (.bool false), .lit (.bool false), .lit (.bool false), .lit (.int .i64 1)], .agg [.lit (.bool true), .lit (.bool false), .lit (.bool false), .lit (.bool false), .lit (.int .i64 1)], .agg [.lit (.bool false), .lit (.bool true), .lit (.bool true), .lit (.bool false), .lit (.int .i64 0)], .agg [.lit (.bool false), .lit (.bool true), .lit (.bool true), .lit (.bool false), .lit (.int .i64 0)], .agg [.lit (.bool false), .lit (.bool false), .lit (.bool false), .lit (.bool false), .lit (.int .i64 0)], .agg [.lit (.bool false), .lit (.bool false), .lit (.bool false), .lit (.bool false), .lit (.int .i64 0)]]

/-- 'tricklelaw18.CheckDiagnostics': WHATEVER THE INPUT: true; the input reads as it did. -/
def checkDiagnosticsSpec : ChangeSpec := { name := "checkDiagnostics", fn := fun _ => fun
  | [d] => { results := [.lit (.bool true)], args := [d] }
  | _ => none }
def checkDiagnosticsRow : OpenClaim := { program := "ytkfdnlfkomhmfaagreatdoor", sum := "27ce77e5107e9f16db567389634a824c0dad8aac6a989e43cab1c83d5c99195d", func := "trickle/tricklelaw18.CheckDiagnostics", spec := "checkDiagnostics", unfollowed := true, recurses := true, named := ["strings.asciiSpace", "unicode.White_Space", "trickle/ast.statements"], loops := true, apart := false, laid := [("unicode.White_Space", laid_unicode_White_Space), ("strings.asciiSpace", laid_strings_asciiSpace), ("trickle/ast.statements", laid_trickle_ast_statements)] }
def CheckDiagnosticsSaid : Prop := checkDiagnosticsRow.holds Tryz.pinned (OpenSpec.ofChange checkDiagnosticsSpec)

/-- ITS FALSE NEIGHBOUR: 'it returns false'. Refute it at one input. -/
def checkDiagnosticsWrong : ChangeSpec := { name := "checkDiagnostics", fn := fun _ => fun
  | [d] => { results := [.lit (.bool false)], args := [d] }
  | _ => none }
def CheckDiagnosticsWrongFalsely : Prop := checkDiagnosticsRow.holds Tryz.pinned (OpenSpec.ofChange checkDiagnosticsWrong)

/-- 'tricklelaw18.CheckLookup': WHATEVER THE INPUT: true; the input reads as it did. -/
def checkLookupSpec : ChangeSpec := { name := "checkLookup", fn := fun _ => fun
  | [d1, d2] => { results := [.lit (.bool true)], args := [d1, d2] }
  | _ => none }
def checkLookupRow : OpenClaim := { program := "ytkfdnlfkomhmfaagreatdoor", sum := "27ce77e5107e9f16db567389634a824c0dad8aac6a989e43cab1c83d5c99195d", func := "trickle/tricklelaw18.CheckLookup", spec := "checkLookup", unfollowed := true, recurses := true, named := ["strings.asciiSpace", "unicode.White_Space", "trickle/ast.statements"], loops := true, apart := false, laid := [("unicode.White_Space", laid_unicode_White_Space), ("strings.asciiSpace", laid_strings_asciiSpace), ("trickle/ast.statements", laid_trickle_ast_statements)] }
def CheckLookupSaid : Prop := checkLookupRow.holds Tryz.pinned (OpenSpec.ofChange checkLookupSpec)

/-- ITS FALSE NEIGHBOUR: 'it returns false'. Refute it at one input. -/
def checkLookupWrong : ChangeSpec := { name := "checkLookup", fn := fun _ => fun
  | [d1, d2] => { results := [.lit (.bool false)], args := [d1, d2] }
  | _ => none }
def CheckLookupWrongFalsely : Prop := checkLookupRow.holds Tryz.pinned (OpenSpec.ofChange checkLookupWrong)

/-- 'tricklelaw18.CheckConstValue': WHATEVER THE INPUT: true; the input reads as it did. -/
def checkConstValueSpec : ChangeSpec := { name := "checkConstValue", fn := fun _ => fun
  | [d1, d2] => { results := [.lit (.bool true)], args := [d1, d2] }
  | _ => none }
def checkConstValueRow : OpenClaim := { program := "ytkfdnlfkomhmfaagreatdoor", sum := "27ce77e5107e9f16db567389634a824c0dad8aac6a989e43cab1c83d5c99195d", func := "trickle/tricklelaw18.CheckConstValue", spec := "checkConstValue", unfollowed := true, recurses := true, named := ["strings.asciiSpace", "unicode.White_Space", "trickle/ast.statements"], loops := true, apart := false, laid := [("unicode.White_Space", laid_unicode_White_Space), ("strings.asciiSpace", laid_strings_asciiSpace), ("trickle/ast.statements", laid_trickle_ast_statements)] }
def CheckConstValueSaid : Prop := checkConstValueRow.holds Tryz.pinned (OpenSpec.ofChange checkConstValueSpec)

/-- ITS FALSE NEIGHBOUR: 'it returns false'. Refute it at one input. -/
def checkConstValueWrong : ChangeSpec := { name := "checkConstValue", fn := fun _ => fun
  | [d1, d2] => { results := [.lit (.bool false)], args := [d1, d2] }
  | _ => none }
def CheckConstValueWrongFalsely : Prop := checkConstValueRow.holds Tryz.pinned (OpenSpec.ofChange checkConstValueWrong)

/-- 'tricklelaw18.CheckPositions': WHATEVER THE INPUT: true; the input reads as it did. -/
def checkPositionsSpec : ChangeSpec := { name := "checkPositions", fn := fun _ => fun
  | [d] => { results := [.lit (.bool true)], args := [d] }
  | _ => none }
def checkPositionsRow : OpenClaim := { program := "ytkfdnlfkomhmfaagreatdoor", sum := "27ce77e5107e9f16db567389634a824c0dad8aac6a989e43cab1c83d5c99195d", func := "trickle/tricklelaw18.CheckPositions", spec := "checkPositions", unfollowed := true, recurses := true, named := ["strings.asciiSpace", "unicode.White_Space", "trickle/ast.statements"], loops := true, apart := false, laid := [("unicode.White_Space", laid_unicode_White_Space), ("strings.asciiSpace", laid_strings_asciiSpace), ("trickle/ast.statements", laid_trickle_ast_statements)] }
def CheckPositionsSaid : Prop := checkPositionsRow.holds Tryz.pinned (OpenSpec.ofChange checkPositionsSpec)

/-- ITS FALSE NEIGHBOUR: 'it returns false'. Refute it at one input. -/
def checkPositionsWrong : ChangeSpec := { name := "checkPositions", fn := fun _ => fun
  | [d] => { results := [.lit (.bool false)], args := [d] }
  | _ => none }
def CheckPositionsWrongFalsely : Prop := checkPositionsRow.holds Tryz.pinned (OpenSpec.ofChange checkPositionsWrong)

/-- 'tricklelaw18.CheckTasks': WHATEVER THE INPUT: true; the input reads as it did. -/
def checkTasksSpec : ChangeSpec := { name := "checkTasks", fn := fun _ => fun
  | [d1, d2] => { results := [.lit (.bool true)], args := [d1, d2] }
  | _ => none }
def checkTasksRow : OpenClaim := { program := "ytkfdnlfkomhmfaagreatdoor", sum := "27ce77e5107e9f16db567389634a824c0dad8aac6a989e43cab1c83d5c99195d", func := "trickle/tricklelaw18.CheckTasks", spec := "checkTasks", unfollowed := true, recurses := true, named := ["strings.asciiSpace", "unicode.White_Space", "trickle/ast.statements"], loops := true, apart := false, laid := [("unicode.White_Space", laid_unicode_White_Space), ("strings.asciiSpace", laid_strings_asciiSpace), ("trickle/ast.statements", laid_trickle_ast_statements)] }
def CheckTasksSaid : Prop := checkTasksRow.holds Tryz.pinned (OpenSpec.ofChange checkTasksSpec)

/-- ITS FALSE NEIGHBOUR: 'it returns false'. Refute it at one input. -/
def checkTasksWrong : ChangeSpec := { name := "checkTasks", fn := fun _ => fun
  | [d1, d2] => { results := [.lit (.bool false)], args := [d1, d2] }
  | _ => none }
def CheckTasksWrongFalsely : Prop := checkTasksRow.holds Tryz.pinned (OpenSpec.ofChange checkTasksWrong)

/-- 'tricklelaw18.CheckAccesses': WHATEVER THE INPUT: true; the input reads as it did. -/
def checkAccessesSpec : ChangeSpec := { name := "checkAccesses", fn := fun _ => fun
  | [d1, d2] => { results := [.lit (.bool true)], args := [d1, d2] }
  | _ => none }
def checkAccessesRow : OpenClaim := { program := "ytkfdnlfkomhmfaagreatdoor", sum := "27ce77e5107e9f16db567389634a824c0dad8aac6a989e43cab1c83d5c99195d", func := "trickle/tricklelaw18.CheckAccesses", spec := "checkAccesses", unfollowed := true, recurses := true, named := ["strings.asciiSpace", "unicode.White_Space", "trickle/ast.statements"], loops := true, apart := false, laid := [("unicode.White_Space", laid_unicode_White_Space), ("strings.asciiSpace", laid_strings_asciiSpace), ("trickle/ast.statements", laid_trickle_ast_statements)] }
def CheckAccessesSaid : Prop := checkAccessesRow.holds Tryz.pinned (OpenSpec.ofChange checkAccessesSpec)

/-- ITS FALSE NEIGHBOUR: 'it returns false'. Refute it at one input. -/
def checkAccessesWrong : ChangeSpec := { name := "checkAccesses", fn := fun _ => fun
  | [d1, d2] => { results := [.lit (.bool false)], args := [d1, d2] }
  | _ => none }
def CheckAccessesWrongFalsely : Prop := checkAccessesRow.holds Tryz.pinned (OpenSpec.ofChange checkAccessesWrong)

/-- 'tricklelaw18.CheckUnion': WHATEVER THE INPUT: true; the input reads as it did. -/
def checkUnionSpec : ChangeSpec := { name := "checkUnion", fn := fun _ => fun
  | [d1, d2, d3] => { results := [.lit (.bool true)], args := [d1, d2, d3] }
  | _ => none }
def checkUnionRow : OpenClaim := { program := "ytkfdnlfkomhmfaagreatdoor", sum := "27ce77e5107e9f16db567389634a824c0dad8aac6a989e43cab1c83d5c99195d", func := "trickle/tricklelaw18.CheckUnion", spec := "checkUnion", unfollowed := true, recurses := true, named := ["strings.asciiSpace", "unicode.White_Space", "trickle/ast.statements"], loops := true, apart := false, laid := [("unicode.White_Space", laid_unicode_White_Space), ("strings.asciiSpace", laid_strings_asciiSpace), ("trickle/ast.statements", laid_trickle_ast_statements)] }
def CheckUnionSaid : Prop := checkUnionRow.holds Tryz.pinned (OpenSpec.ofChange checkUnionSpec)

/-- ITS FALSE NEIGHBOUR: 'it returns false'. Refute it at one input. -/
def checkUnionWrong : ChangeSpec := { name := "checkUnion", fn := fun _ => fun
  | [d1, d2, d3] => { results := [.lit (.bool false)], args := [d1, d2, d3] }
  | _ => none }
def CheckUnionWrongFalsely : Prop := checkUnionRow.holds Tryz.pinned (OpenSpec.ofChange checkUnionWrong)

/- THE SECOND FORM. 'bulk': how many values and letters a reading holds, each counted each time it is reached (what is shared counts as often as it is met; a slice's spare places count too). A statement '..UptoSaid' is the law's where the arguments, and the package variables that the reading takes, are together of bulk at most 1048576: NARROWER than '..Said'. Prove '..Said' where nothing that the law and all that it calls make is longer than what came in: it says more and counts as full. Else prove '..UptoSaid'. A law counts once. -/
mutual
def uptoBulk {H : Type} : DataW H → Nat
  | .lit (.string bytes) => bytes.length + 1
  | .lit _ => 1
  | .nil => 1
  | .ptr d => uptoBulk d + 1
  | .slice elems spare => uptoBulkAll elems + uptoBulkAll spare + 1
  | .agg parts => uptoBulkAll parts + 1
  | .iface _ d => uptoBulk d + 1
  | .map entries => uptoBulkEntries entries + 1
  | .held _ => 1
def uptoBulkAll {H : Type} : List (DataW H) → Nat
  | [] => 0
  | d :: r => uptoBulk d + uptoBulkAll r
def uptoBulkEntries {H : Type} : List (Lit × DataW H) → Nat
  | [] => 0
  | x :: r => uptoBulkEntry x + uptoBulkEntries r
def uptoBulkEntry {H : Type} : Lit × DataW H → Nat
  | (.string bytes, d) => bytes.length + uptoBulk d + 1
  | (_, d) => uptoBulk d + 1
 end
def uptoSmall : (H : Type) → List (DataW H) → Bool := fun _ ds => decide (uptoBulkAll ds ≤ 1048576)
def OpenSpec.upto (s : _root_.Go.ChangeSpec) : _root_.Go.OpenSpec := { _root_.Go.OpenSpec.ofChange s with cond := some uptoSmall }

/-- 'tricklelaw18.CheckDiagnostics', WHERE WHAT IT READS IS OF BULK AT MOST 1048576: true; the input reads as it did. -/
def checkDiagnosticsUptoRow : OpenClaim := { program := "ytkfdnlfkomhmfaagreatdoor", sum := "27ce77e5107e9f16db567389634a824c0dad8aac6a989e43cab1c83d5c99195d", func := "trickle/tricklelaw18.CheckDiagnostics", spec := "checkDiagnostics", unfollowed := true, recurses := true, named := ["strings.asciiSpace", "unicode.White_Space", "trickle/ast.statements"], loops := true, apart := false, laid := [("unicode.White_Space", laid_unicode_White_Space), ("strings.asciiSpace", laid_strings_asciiSpace), ("trickle/ast.statements", laid_trickle_ast_statements)], narrowed := true }
def CheckDiagnosticsUptoSaid : Prop := checkDiagnosticsUptoRow.holds Tryz.pinned (OpenSpec.upto checkDiagnosticsSpec)

/-- 'tricklelaw18.CheckLookup', WHERE WHAT IT READS IS OF BULK AT MOST 1048576: true; the input reads as it did. -/
def checkLookupUptoRow : OpenClaim := { program := "ytkfdnlfkomhmfaagreatdoor", sum := "27ce77e5107e9f16db567389634a824c0dad8aac6a989e43cab1c83d5c99195d", func := "trickle/tricklelaw18.CheckLookup", spec := "checkLookup", unfollowed := true, recurses := true, named := ["strings.asciiSpace", "unicode.White_Space", "trickle/ast.statements"], loops := true, apart := false, laid := [("unicode.White_Space", laid_unicode_White_Space), ("strings.asciiSpace", laid_strings_asciiSpace), ("trickle/ast.statements", laid_trickle_ast_statements)], narrowed := true }
def CheckLookupUptoSaid : Prop := checkLookupUptoRow.holds Tryz.pinned (OpenSpec.upto checkLookupSpec)

/-- 'tricklelaw18.CheckConstValue', WHERE WHAT IT READS IS OF BULK AT MOST 1048576: true; the input reads as it did. -/
def checkConstValueUptoRow : OpenClaim := { program := "ytkfdnlfkomhmfaagreatdoor", sum := "27ce77e5107e9f16db567389634a824c0dad8aac6a989e43cab1c83d5c99195d", func := "trickle/tricklelaw18.CheckConstValue", spec := "checkConstValue", unfollowed := true, recurses := true, named := ["strings.asciiSpace", "unicode.White_Space", "trickle/ast.statements"], loops := true, apart := false, laid := [("unicode.White_Space", laid_unicode_White_Space), ("strings.asciiSpace", laid_strings_asciiSpace), ("trickle/ast.statements", laid_trickle_ast_statements)], narrowed := true }
def CheckConstValueUptoSaid : Prop := checkConstValueUptoRow.holds Tryz.pinned (OpenSpec.upto checkConstValueSpec)

/-- 'tricklelaw18.CheckPositions', WHERE WHAT IT READS IS OF BULK AT MOST 1048576: true; the input reads as it did. -/
def checkPositionsUptoRow : OpenClaim := { program := "ytkfdnlfkomhmfaagreatdoor", sum := "27ce77e5107e9f16db567389634a824c0dad8aac6a989e43cab1c83d5c99195d", func := "trickle/tricklelaw18.CheckPositions", spec := "checkPositions", unfollowed := true, recurses := true, named := ["strings.asciiSpace", "unicode.White_Space", "trickle/ast.statements"], loops := true, apart := false, laid := [("unicode.White_Space", laid_unicode_White_Space), ("strings.asciiSpace", laid_strings_asciiSpace), ("trickle/ast.statements", laid_trickle_ast_statements)], narrowed := true }
def CheckPositionsUptoSaid : Prop := checkPositionsUptoRow.holds Tryz.pinned (OpenSpec.upto checkPositionsSpec)

/-- 'tricklelaw18.CheckTasks', WHERE WHAT IT READS IS OF BULK AT MOST 1048576: true; the input reads as it did. -/
def checkTasksUptoRow : OpenClaim := { program := "ytkfdnlfkomhmfaagreatdoor", sum := "27ce77e5107e9f16db567389634a824c0dad8aac6a989e43cab1c83d5c99195d", func := "trickle/tricklelaw18.CheckTasks", spec := "checkTasks", unfollowed := true, recurses := true, named := ["strings.asciiSpace", "unicode.White_Space", "trickle/ast.statements"], loops := true, apart := false, laid := [("unicode.White_Space", laid_unicode_White_Space), ("strings.asciiSpace", laid_strings_asciiSpace), ("trickle/ast.statements", laid_trickle_ast_statements)], narrowed := true }
def CheckTasksUptoSaid : Prop := checkTasksUptoRow.holds Tryz.pinned (OpenSpec.upto checkTasksSpec)

/-- 'tricklelaw18.CheckAccesses', WHERE WHAT IT READS IS OF BULK AT MOST 1048576: true; the input reads as it did. -/
def checkAccessesUptoRow : OpenClaim := { program := "ytkfdnlfkomhmfaagreatdoor", sum := "27ce77e5107e9f16db567389634a824c0dad8aac6a989e43cab1c83d5c99195d", func := "trickle/tricklelaw18.CheckAccesses", spec := "checkAccesses", unfollowed := true, recurses := true, named := ["strings.asciiSpace", "unicode.White_Space", "trickle/ast.statements"], loops := true, apart := false, laid := [("unicode.White_Space", laid_unicode_White_Space), ("strings.asciiSpace", laid_strings_asciiSpace), ("trickle/ast.statements", laid_trickle_ast_statements)], narrowed := true }
def CheckAccessesUptoSaid : Prop := checkAccessesUptoRow.holds Tryz.pinned (OpenSpec.upto checkAccessesSpec)

/-- 'tricklelaw18.CheckUnion', WHERE WHAT IT READS IS OF BULK AT MOST 1048576: true; the input reads as it did. -/
def checkUnionUptoRow : OpenClaim := { program := "ytkfdnlfkomhmfaagreatdoor", sum := "27ce77e5107e9f16db567389634a824c0dad8aac6a989e43cab1c83d5c99195d", func := "trickle/tricklelaw18.CheckUnion", spec := "checkUnion", unfollowed := true, recurses := true, named := ["strings.asciiSpace", "unicode.White_Space", "trickle/ast.statements"], loops := true, apart := false, laid := [("unicode.White_Space", laid_unicode_White_Space), ("strings.asciiSpace", laid_strings_asciiSpace), ("trickle/ast.statements", laid_trickle_ast_statements)], narrowed := true }
def CheckUnionUptoSaid : Prop := checkUnionUptoRow.holds Tryz.pinned (OpenSpec.upto checkUnionSpec)

end Rows
end Go.Proofs.YtkfdnlfkomhmfaaGreatDoor
