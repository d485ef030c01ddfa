/-
  DERIVED. GIVEN WITH THE SEED: THE CARDS: each row of YtheklmekepeblaaGreatDoorRows.lean that lists a variable, with what it lists TIED to the program's text (the seventh form; the later family's looks); each row that meets fmt, with fmt's text TOLD by the authors' own Lean function (tested against real Go, not proved from fmt's source: count such statements apart). THE CARD IS WHAT COUNTS. Prove the row's statement (the work); the ties are given (YtheklmekepeblaaGreatDoorTie.lean); close each card by the builder's one call (the guide's Derived/Test/ToyasCard.lean, 'card_holds'). Laid BY PROGRAM, IN A SANDBOX (cutbox-door.mjs). By AI agents, Wed Nov 11 2026. No macro, syntax, notation, axiom, sorry.
-/
import Derived.Test.YtheklmekepeblaaGreatDoorRows
import GoSem.ClaimSeven
namespace Go.Proofs.YtheklmekepeblaaGreatDoor
namespace Rows

/-- THE TIED CARD OF 'bootjacklaw20.CheckSure'. -/
def checkSureCard : Claim7 := { stood := { row := checkSureRow, standIns := [], harness := (true, "e86307e10995aa04cee27fb3a61ff4b21b38c6d331aad89d1f5baa66c7b5e627"), looks := true }, kinds := [], alts := [], laidByText := true, laidKinds := [.data, .data, .pinned, .pinned, .pinned, .pinned], laidTests := true, laidLooks := .later }
def CheckSureCardSaid : Prop := Claim7.holds Tryz.pinned (.plain (OpenSpec.ofChange checkSureSpec)) checkSureCard

/-- THE TIED CARD OF 'bootjacklaw20.CheckAgain'. -/
def checkAgainCard : Claim7 := { stood := { row := checkAgainRow, standIns := [], harness := (true, "e86307e10995aa04cee27fb3a61ff4b21b38c6d331aad89d1f5baa66c7b5e627"), looks := true }, kinds := [], alts := [], laidByText := true, laidKinds := [.data, .data, .pinned, .pinned, .pinned, .pinned], laidTests := true, laidLooks := .later }
def CheckAgainCardSaid : Prop := Claim7.holds Tryz.pinned (.plain (OpenSpec.ofChange checkAgainSpec)) checkAgainCard

/-- THE TIED CARD OF 'bootjacklaw20.CheckNames'. -/
def checkNamesCard : Claim7 := { stood := { row := checkNamesRow, standIns := [], harness := (true, "e86307e10995aa04cee27fb3a61ff4b21b38c6d331aad89d1f5baa66c7b5e627"), looks := true }, kinds := [], alts := [], laidByText := true, laidKinds := [.data, .data, .pinned, .pinned, .pinned, .pinned], laidTests := true, laidLooks := .later }
def CheckNamesCardSaid : Prop := Claim7.holds Tryz.pinned (.plain (OpenSpec.ofChange checkNamesSpec)) checkNamesCard

/-- THE TIED CARD OF 'bootjacklaw20.CheckRuns'. -/
def checkRunsCard : Claim7 := { stood := { row := checkRunsRow, standIns := [], harness := (true, "e86307e10995aa04cee27fb3a61ff4b21b38c6d331aad89d1f5baa66c7b5e627"), looks := true }, kinds := [], alts := [], laidByText := true, laidKinds := [.data, .data, .pinned, .pinned, .pinned, .pinned], laidTests := true, laidLooks := .later }
def CheckRunsCardSaid : Prop := Claim7.holds Tryz.pinned (.plain (OpenSpec.ofChange checkRunsSpec)) checkRunsCard

/-- THE SECOND FORM's CARD OF 'bootjacklaw20.CheckSure'. -/
def checkSureUptoCard : Claim7 := { stood := { row := checkSureUptoRow, standIns := [], harness := (true, "e86307e10995aa04cee27fb3a61ff4b21b38c6d331aad89d1f5baa66c7b5e627"), looks := true }, kinds := [], alts := [], laidByText := true, laidKinds := [.data, .data, .pinned, .pinned, .pinned, .pinned], laidTests := true, laidLooks := .later }
def CheckSureUptoCardSaid : Prop := Claim7.holds Tryz.pinned (.plain (OpenSpec.upto checkSureSpec)) checkSureUptoCard

/-- THE SECOND FORM's CARD OF 'bootjacklaw20.CheckAgain'. -/
def checkAgainUptoCard : Claim7 := { stood := { row := checkAgainUptoRow, standIns := [], harness := (true, "e86307e10995aa04cee27fb3a61ff4b21b38c6d331aad89d1f5baa66c7b5e627"), looks := true }, kinds := [], alts := [], laidByText := true, laidKinds := [.data, .data, .pinned, .pinned, .pinned, .pinned], laidTests := true, laidLooks := .later }
def CheckAgainUptoCardSaid : Prop := Claim7.holds Tryz.pinned (.plain (OpenSpec.upto checkAgainSpec)) checkAgainUptoCard

/-- THE SECOND FORM's CARD OF 'bootjacklaw20.CheckNames'. -/
def checkNamesUptoCard : Claim7 := { stood := { row := checkNamesUptoRow, standIns := [], harness := (true, "e86307e10995aa04cee27fb3a61ff4b21b38c6d331aad89d1f5baa66c7b5e627"), looks := true }, kinds := [], alts := [], laidByText := true, laidKinds := [.data, .data, .pinned, .pinned, .pinned, .pinned], laidTests := true, laidLooks := .later }
def CheckNamesUptoCardSaid : Prop := Claim7.holds Tryz.pinned (.plain (OpenSpec.upto checkNamesSpec)) checkNamesUptoCard

/-- THE SECOND FORM's CARD OF 'bootjacklaw20.CheckRuns'. -/
def checkRunsUptoCard : Claim7 := { stood := { row := checkRunsUptoRow, standIns := [], harness := (true, "e86307e10995aa04cee27fb3a61ff4b21b38c6d331aad89d1f5baa66c7b5e627"), looks := true }, kinds := [], alts := [], laidByText := true, laidKinds := [.data, .data, .pinned, .pinned, .pinned, .pinned], laidTests := true, laidLooks := .later }
def CheckRunsUptoCardSaid : Prop := Claim7.holds Tryz.pinned (.plain (OpenSpec.upto checkRunsSpec)) checkRunsUptoCard
end Rows
end Go.Proofs.YtheklmekepeblaaGreatDoor
