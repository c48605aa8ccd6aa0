/-
  DERIVED. GIVEN WITH THE SEED: THE CARDS: each row of YtkfdnlfkomhmfaaGreatDoorRows.lean that lists a variable, with what it lists TIED to the program's text (the seventh form; the later family's looks); each row that meets fmt, with fmt's text TOLD by the authors' own Lean function (tested against real Go, not proved from fmt's source: count such statements apart). THE CARD IS WHAT COUNTS. Prove the row's statement (the work); the ties are given (YtkfdnlfkomhmfaaGreatDoorTie.lean); close each card by the builder's one call (the guide's Derived/Test/ToyasCard.lean, 'card_holds'). Laid BY PROGRAM, IN A SANDBOX (cutbox-door.mjs). By AI agents, Wed Nov 11 2026. No macro, syntax, notation, axiom, sorry.
-/
import Derived.Test.YtkfdnlfkomhmfaaGreatDoorRows
import GoSem.ClaimSeven
namespace Go.Proofs.YtkfdnlfkomhmfaaGreatDoor
namespace Rows

/-- THE TIED CARD OF 'tricklelaw18.CheckDiagnostics'. -/
def checkDiagnosticsCard : Claim7 := { stood := { row := checkDiagnosticsRow, standIns := [], harness := (true, "3d16dc465c5f00d91190500b8a665361ca63b44687f33b74a97745a6b560d214"), looks := false }, kinds := [], alts := [], laidByText := true, laidKinds := [.listed, .data, .data], laidTests := true, laidLooks := .later }
def CheckDiagnosticsCardSaid : Prop := Claim7.holds Tryz.pinned (.plain (OpenSpec.ofChange checkDiagnosticsSpec)) checkDiagnosticsCard

/-- THE TIED CARD OF 'tricklelaw18.CheckLookup'. -/
def checkLookupCard : Claim7 := { stood := { row := checkLookupRow, standIns := [], harness := (true, "3d16dc465c5f00d91190500b8a665361ca63b44687f33b74a97745a6b560d214"), looks := false }, kinds := [], alts := [], laidByText := true, laidKinds := [.listed, .data, .data], laidTests := true, laidLooks := .later }
def CheckLookupCardSaid : Prop := Claim7.holds Tryz.pinned (.plain (OpenSpec.ofChange checkLookupSpec)) checkLookupCard

/-- THE TIED CARD OF 'tricklelaw18.CheckConstValue'. -/
def checkConstValueCard : Claim7 := { stood := { row := checkConstValueRow, standIns := [], harness := (true, "3d16dc465c5f00d91190500b8a665361ca63b44687f33b74a97745a6b560d214"), looks := false }, kinds := [], alts := [], laidByText := true, laidKinds := [.listed, .data, .data], laidTests := true, laidLooks := .later }
def CheckConstValueCardSaid : Prop := Claim7.holds Tryz.pinned (.plain (OpenSpec.ofChange checkConstValueSpec)) checkConstValueCard

/-- THE TIED CARD OF 'tricklelaw18.CheckPositions'. -/
def checkPositionsCard : Claim7 := { stood := { row := checkPositionsRow, standIns := [], harness := (true, "3d16dc465c5f00d91190500b8a665361ca63b44687f33b74a97745a6b560d214"), looks := false }, kinds := [], alts := [], laidByText := true, laidKinds := [.listed, .data, .data], laidTests := true, laidLooks := .later }
def CheckPositionsCardSaid : Prop := Claim7.holds Tryz.pinned (.plain (OpenSpec.ofChange checkPositionsSpec)) checkPositionsCard

/-- THE TIED CARD OF 'tricklelaw18.CheckTasks'. -/
def checkTasksCard : Claim7 := { stood := { row := checkTasksRow, standIns := [], harness := (true, "3d16dc465c5f00d91190500b8a665361ca63b44687f33b74a97745a6b560d214"), looks := false }, kinds := [], alts := [], laidByText := true, laidKinds := [.listed, .data, .data], laidTests := true, laidLooks := .later }
def CheckTasksCardSaid : Prop := Claim7.holds Tryz.pinned (.plain (OpenSpec.ofChange checkTasksSpec)) checkTasksCard

/-- THE TIED CARD OF 'tricklelaw18.CheckAccesses'. -/
def checkAccessesCard : Claim7 := { stood := { row := checkAccessesRow, standIns := [], harness := (true, "3d16dc465c5f00d91190500b8a665361ca63b44687f33b74a97745a6b560d214"), looks := false }, kinds := [], alts := [], laidByText := true, laidKinds := [.listed, .data, .data], laidTests := true, laidLooks := .later }
def CheckAccessesCardSaid : Prop := Claim7.holds Tryz.pinned (.plain (OpenSpec.ofChange checkAccessesSpec)) checkAccessesCard

/-- THE TIED CARD OF 'tricklelaw18.CheckUnion'. -/
def checkUnionCard : Claim7 := { stood := { row := checkUnionRow, standIns := [], harness := (true, "3d16dc465c5f00d91190500b8a665361ca63b44687f33b74a97745a6b560d214"), looks := false }, kinds := [], alts := [], laidByText := true, laidKinds := [.listed, .data, .data], laidTests := true, laidLooks := .later }
def CheckUnionCardSaid : Prop := Claim7.holds Tryz.pinned (.plain (OpenSpec.ofChange checkUnionSpec)) checkUnionCard

/-- THE SECOND FORM's CARD OF 'tricklelaw18.CheckDiagnostics'. -/
def checkDiagnosticsUptoCard : Claim7 := { stood := { row := checkDiagnosticsUptoRow, standIns := [], harness := (true, "3d16dc465c5f00d91190500b8a665361ca63b44687f33b74a97745a6b560d214"), looks := false }, kinds := [], alts := [], laidByText := true, laidKinds := [.listed, .data, .data], laidTests := true, laidLooks := .later }
def CheckDiagnosticsUptoCardSaid : Prop := Claim7.holds Tryz.pinned (.plain (OpenSpec.upto checkDiagnosticsSpec)) checkDiagnosticsUptoCard

/-- THE SECOND FORM's CARD OF 'tricklelaw18.CheckLookup'. -/
def checkLookupUptoCard : Claim7 := { stood := { row := checkLookupUptoRow, standIns := [], harness := (true, "3d16dc465c5f00d91190500b8a665361ca63b44687f33b74a97745a6b560d214"), looks := false }, kinds := [], alts := [], laidByText := true, laidKinds := [.listed, .data, .data], laidTests := true, laidLooks := .later }
def CheckLookupUptoCardSaid : Prop := Claim7.holds Tryz.pinned (.plain (OpenSpec.upto checkLookupSpec)) checkLookupUptoCard

/-- THE SECOND FORM's CARD OF 'tricklelaw18.CheckConstValue'. -/
def checkConstValueUptoCard : Claim7 := { stood := { row := checkConstValueUptoRow, standIns := [], harness := (true, "3d16dc465c5f00d91190500b8a665361ca63b44687f33b74a97745a6b560d214"), looks := false }, kinds := [], alts := [], laidByText := true, laidKinds := [.listed, .data, .data], laidTests := true, laidLooks := .later }
def CheckConstValueUptoCardSaid : Prop := Claim7.holds Tryz.pinned (.plain (OpenSpec.upto checkConstValueSpec)) checkConstValueUptoCard

/-- THE SECOND FORM's CARD OF 'tricklelaw18.CheckPositions'. -/
def checkPositionsUptoCard : Claim7 := { stood := { row := checkPositionsUptoRow, standIns := [], harness := (true, "3d16dc465c5f00d91190500b8a665361ca63b44687f33b74a97745a6b560d214"), looks := false }, kinds := [], alts := [], laidByText := true, laidKinds := [.listed, .data, .data], laidTests := true, laidLooks := .later }
def CheckPositionsUptoCardSaid : Prop := Claim7.holds Tryz.pinned (.plain (OpenSpec.upto checkPositionsSpec)) checkPositionsUptoCard

/-- THE SECOND FORM's CARD OF 'tricklelaw18.CheckTasks'. -/
def checkTasksUptoCard : Claim7 := { stood := { row := checkTasksUptoRow, standIns := [], harness := (true, "3d16dc465c5f00d91190500b8a665361ca63b44687f33b74a97745a6b560d214"), looks := false }, kinds := [], alts := [], laidByText := true, laidKinds := [.listed, .data, .data], laidTests := true, laidLooks := .later }
def CheckTasksUptoCardSaid : Prop := Claim7.holds Tryz.pinned (.plain (OpenSpec.upto checkTasksSpec)) checkTasksUptoCard

/-- THE SECOND FORM's CARD OF 'tricklelaw18.CheckAccesses'. -/
def checkAccessesUptoCard : Claim7 := { stood := { row := checkAccessesUptoRow, standIns := [], harness := (true, "3d16dc465c5f00d91190500b8a665361ca63b44687f33b74a97745a6b560d214"), looks := false }, kinds := [], alts := [], laidByText := true, laidKinds := [.listed, .data, .data], laidTests := true, laidLooks := .later }
def CheckAccessesUptoCardSaid : Prop := Claim7.holds Tryz.pinned (.plain (OpenSpec.upto checkAccessesSpec)) checkAccessesUptoCard

/-- THE SECOND FORM's CARD OF 'tricklelaw18.CheckUnion'. -/
def checkUnionUptoCard : Claim7 := { stood := { row := checkUnionUptoRow, standIns := [], harness := (true, "3d16dc465c5f00d91190500b8a665361ca63b44687f33b74a97745a6b560d214"), looks := false }, kinds := [], alts := [], laidByText := true, laidKinds := [.listed, .data, .data], laidTests := true, laidLooks := .later }
def CheckUnionUptoCardSaid : Prop := Claim7.holds Tryz.pinned (.plain (OpenSpec.upto checkUnionSpec)) checkUnionUptoCard
end Rows
end Go.Proofs.YtkfdnlfkomhmfaaGreatDoor
