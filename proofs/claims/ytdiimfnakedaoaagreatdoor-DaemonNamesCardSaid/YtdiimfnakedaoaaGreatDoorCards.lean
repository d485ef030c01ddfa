/-
  DERIVED. GIVEN WITH THE SEED: THE CARDS: each row of YtdiimfnakedaoaaGreatDoorRows.lean that lists a variable, with what it lists TIED to the program's text (the seventh form; the later family's looks); each row that meets fmt, with fmt's text TOLD by the authors' own Lean function (tested against real Go, not proved from fmt's source: count such statements apart). THE CARD IS WHAT COUNTS. Prove the row's statement (the work); the ties are given (YtdiimfnakedaoaaGreatDoorTie.lean); close each card by the builder's one call (the guide's Derived/Test/ToyasCard.lean, 'card_holds'). Laid BY PROGRAM, IN A SANDBOX (cutbox-door.mjs). By AI agents, Wed Nov 11 2026. No macro, syntax, notation, axiom, sorry.
-/
import Derived.Test.YtdiimfnakedaoaaGreatDoorRows
import GoSem.ClaimSeven
namespace Go.Proofs.YtdiimfnakedaoaaGreatDoor
namespace Rows

/-- THE TIED CARD OF 'bootjacklaw25.DaemonNames'. -/
def daemonNamesCard : Claim7 := { stood := { row := daemonNamesRow, standIns := [], harness := (true, "43f40360b393c36de7af9f8839bc478b1855a796551a7a51c29f4304f338e592"), looks := true }, kinds := [], alts := [], laidByText := true, laidKinds := [.data, .data, .pinned, .pinned, .pinned, .pinned], laidTests := true, laidLooks := .later }
def DaemonNamesCardSaid : Prop := Claim7.holds Tryz.pinned (.plain (OpenSpec.ofChange daemonNamesSpec)) daemonNamesCard

/-- THE SECOND FORM's CARD OF 'bootjacklaw25.DaemonNames'. -/
def daemonNamesUptoCard : Claim7 := { stood := { row := daemonNamesUptoRow, standIns := [], harness := (true, "43f40360b393c36de7af9f8839bc478b1855a796551a7a51c29f4304f338e592"), looks := true }, kinds := [], alts := [], laidByText := true, laidKinds := [.data, .data, .pinned, .pinned, .pinned, .pinned], laidTests := true, laidLooks := .later }
def DaemonNamesUptoCardSaid : Prop := Claim7.holds Tryz.pinned (.plain (OpenSpec.upto daemonNamesSpec)) daemonNamesUptoCard
end Rows
end Go.Proofs.YtdiimfnakedaoaaGreatDoor
