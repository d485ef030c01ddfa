/-
  DERIVED. GIVEN WITH THE SEED: THE CARDS: each row of YtifflnhooaophaaGreatDoorRows.lean that lists a variable, with what it lists TIED to the program's text (the seventh form; the later family's looks); each row that meets fmt, with fmt's text TOLD by the authors' own Lean function (tested against real Go, not proved from fmt's source: count such statements apart). THE CARD IS WHAT COUNTS. Prove the row's statement (the work); the ties are given (YtifflnhooaophaaGreatDoorTie.lean); close each card by the builder's one call (the guide's Derived/Test/ToyasCard.lean, 'card_holds'). Laid BY PROGRAM, IN A SANDBOX (cutbox-door.mjs). By AI agents, Wed Nov 11 2026. No macro, syntax, notation, axiom, sorry.
-/
import Derived.Test.YtifflnhooaophaaGreatDoorRows
import GoSem.ClaimSeven
namespace Go.Proofs.YtifflnhooaophaaGreatDoor
namespace Rows

/-- THE TIED CARD OF 'bootjacklaw23.PipeBound'. -/
def pipeBoundCard : Claim7 := { stood := { row := pipeBoundRow, standIns := [], harness := (true, "cd6b7e98657501caa20ca951c8fc5079dc54a114b092a6090a9b7a7e3f4f8e67"), looks := true }, kinds := [], alts := [], laidByText := true, laidKinds := [.data, .data, .pinned, .pinned, .pinned, .pinned], laidTests := true, laidLooks := .later }
def PipeBoundCardSaid : Prop := Claim7.holds Tryz.pinned (.plain (OpenSpec.ofChange pipeBoundSpec)) pipeBoundCard

/-- THE TIED CARD OF 'bootjacklaw23.PipeDone'. -/
def pipeDoneCard : Claim7 := { stood := { row := pipeDoneRow, standIns := [], harness := (true, "cd6b7e98657501caa20ca951c8fc5079dc54a114b092a6090a9b7a7e3f4f8e67"), looks := true }, kinds := [], alts := [], laidByText := true, laidKinds := [.data, .data, .pinned, .pinned, .pinned, .pinned], laidTests := true, laidLooks := .later }
def PipeDoneCardSaid : Prop := Claim7.holds Tryz.pinned (.plain (OpenSpec.ofChange pipeDoneSpec)) pipeDoneCard

/-- THE TIED CARD OF 'bootjacklaw23.PipeLives'. -/
def pipeLivesCard : Claim7 := { stood := { row := pipeLivesRow, standIns := [], harness := (true, "cd6b7e98657501caa20ca951c8fc5079dc54a114b092a6090a9b7a7e3f4f8e67"), looks := true }, kinds := [], alts := [], laidByText := true, laidKinds := [.data, .data, .pinned, .pinned, .pinned, .pinned], laidTests := true, laidLooks := .later }
def PipeLivesCardSaid : Prop := Claim7.holds Tryz.pinned (.plain (OpenSpec.ofChange pipeLivesSpec)) pipeLivesCard

/-- THE TIED CARD OF 'bootjacklaw23.PipeNames'. -/
def pipeNamesCard : Claim7 := { stood := { row := pipeNamesRow, standIns := [], harness := (true, "cd6b7e98657501caa20ca951c8fc5079dc54a114b092a6090a9b7a7e3f4f8e67"), looks := true }, kinds := [], alts := [], laidByText := true, laidKinds := [.data, .data, .pinned, .pinned, .pinned, .pinned], laidTests := true, laidLooks := .later }
def PipeNamesCardSaid : Prop := Claim7.holds Tryz.pinned (.plain (OpenSpec.ofChange pipeNamesSpec)) pipeNamesCard

/-- THE TIED CARD OF 'bootjacklaw23.PipeOver'. -/
def pipeOverCard : Claim7 := { stood := { row := pipeOverRow, standIns := [], harness := (true, "cd6b7e98657501caa20ca951c8fc5079dc54a114b092a6090a9b7a7e3f4f8e67"), looks := true }, kinds := [], alts := [], laidByText := true, laidKinds := [.data, .data, .pinned, .pinned, .pinned, .pinned], laidTests := true, laidLooks := .later }
def PipeOverCardSaid : Prop := Claim7.holds Tryz.pinned (.plain (OpenSpec.ofChange pipeOverSpec)) pipeOverCard

/-- THE TIED CARD OF 'bootjacklaw23.PipeSure'. -/
def pipeSureCard : Claim7 := { stood := { row := pipeSureRow, standIns := [], harness := (true, "cd6b7e98657501caa20ca951c8fc5079dc54a114b092a6090a9b7a7e3f4f8e67"), looks := true }, kinds := [], alts := [], laidByText := true, laidKinds := [.data, .data, .pinned, .pinned, .pinned, .pinned], laidTests := true, laidLooks := .later }
def PipeSureCardSaid : Prop := Claim7.holds Tryz.pinned (.plain (OpenSpec.ofChange pipeSureSpec)) pipeSureCard

/-- THE TIED CARD OF 'bootjacklaw23.PipeRuns'. -/
def pipeRunsCard : Claim7 := { stood := { row := pipeRunsRow, standIns := [], harness := (true, "cd6b7e98657501caa20ca951c8fc5079dc54a114b092a6090a9b7a7e3f4f8e67"), looks := true }, kinds := [], alts := [], laidByText := true, laidKinds := [.data, .data, .pinned, .pinned, .pinned, .pinned], laidTests := true, laidLooks := .later }
def PipeRunsCardSaid : Prop := Claim7.holds Tryz.pinned (.plain (OpenSpec.ofChange pipeRunsSpec)) pipeRunsCard

/-- THE SECOND FORM's CARD OF 'bootjacklaw23.PipeBound'. -/
def pipeBoundUptoCard : Claim7 := { stood := { row := pipeBoundUptoRow, standIns := [], harness := (true, "cd6b7e98657501caa20ca951c8fc5079dc54a114b092a6090a9b7a7e3f4f8e67"), looks := true }, kinds := [], alts := [], laidByText := true, laidKinds := [.data, .data, .pinned, .pinned, .pinned, .pinned], laidTests := true, laidLooks := .later }
def PipeBoundUptoCardSaid : Prop := Claim7.holds Tryz.pinned (.plain (OpenSpec.upto pipeBoundSpec)) pipeBoundUptoCard

/-- THE SECOND FORM's CARD OF 'bootjacklaw23.PipeDone'. -/
def pipeDoneUptoCard : Claim7 := { stood := { row := pipeDoneUptoRow, standIns := [], harness := (true, "cd6b7e98657501caa20ca951c8fc5079dc54a114b092a6090a9b7a7e3f4f8e67"), looks := true }, kinds := [], alts := [], laidByText := true, laidKinds := [.data, .data, .pinned, .pinned, .pinned, .pinned], laidTests := true, laidLooks := .later }
def PipeDoneUptoCardSaid : Prop := Claim7.holds Tryz.pinned (.plain (OpenSpec.upto pipeDoneSpec)) pipeDoneUptoCard

/-- THE SECOND FORM's CARD OF 'bootjacklaw23.PipeLives'. -/
def pipeLivesUptoCard : Claim7 := { stood := { row := pipeLivesUptoRow, standIns := [], harness := (true, "cd6b7e98657501caa20ca951c8fc5079dc54a114b092a6090a9b7a7e3f4f8e67"), looks := true }, kinds := [], alts := [], laidByText := true, laidKinds := [.data, .data, .pinned, .pinned, .pinned, .pinned], laidTests := true, laidLooks := .later }
def PipeLivesUptoCardSaid : Prop := Claim7.holds Tryz.pinned (.plain (OpenSpec.upto pipeLivesSpec)) pipeLivesUptoCard

/-- THE SECOND FORM's CARD OF 'bootjacklaw23.PipeNames'. -/
def pipeNamesUptoCard : Claim7 := { stood := { row := pipeNamesUptoRow, standIns := [], harness := (true, "cd6b7e98657501caa20ca951c8fc5079dc54a114b092a6090a9b7a7e3f4f8e67"), looks := true }, kinds := [], alts := [], laidByText := true, laidKinds := [.data, .data, .pinned, .pinned, .pinned, .pinned], laidTests := true, laidLooks := .later }
def PipeNamesUptoCardSaid : Prop := Claim7.holds Tryz.pinned (.plain (OpenSpec.upto pipeNamesSpec)) pipeNamesUptoCard

/-- THE SECOND FORM's CARD OF 'bootjacklaw23.PipeOver'. -/
def pipeOverUptoCard : Claim7 := { stood := { row := pipeOverUptoRow, standIns := [], harness := (true, "cd6b7e98657501caa20ca951c8fc5079dc54a114b092a6090a9b7a7e3f4f8e67"), looks := true }, kinds := [], alts := [], laidByText := true, laidKinds := [.data, .data, .pinned, .pinned, .pinned, .pinned], laidTests := true, laidLooks := .later }
def PipeOverUptoCardSaid : Prop := Claim7.holds Tryz.pinned (.plain (OpenSpec.upto pipeOverSpec)) pipeOverUptoCard

/-- THE SECOND FORM's CARD OF 'bootjacklaw23.PipeSure'. -/
def pipeSureUptoCard : Claim7 := { stood := { row := pipeSureUptoRow, standIns := [], harness := (true, "cd6b7e98657501caa20ca951c8fc5079dc54a114b092a6090a9b7a7e3f4f8e67"), looks := true }, kinds := [], alts := [], laidByText := true, laidKinds := [.data, .data, .pinned, .pinned, .pinned, .pinned], laidTests := true, laidLooks := .later }
def PipeSureUptoCardSaid : Prop := Claim7.holds Tryz.pinned (.plain (OpenSpec.upto pipeSureSpec)) pipeSureUptoCard

/-- THE SECOND FORM's CARD OF 'bootjacklaw23.PipeRuns'. -/
def pipeRunsUptoCard : Claim7 := { stood := { row := pipeRunsUptoRow, standIns := [], harness := (true, "cd6b7e98657501caa20ca951c8fc5079dc54a114b092a6090a9b7a7e3f4f8e67"), looks := true }, kinds := [], alts := [], laidByText := true, laidKinds := [.data, .data, .pinned, .pinned, .pinned, .pinned], laidTests := true, laidLooks := .later }
def PipeRunsUptoCardSaid : Prop := Claim7.holds Tryz.pinned (.plain (OpenSpec.upto pipeRunsSpec)) pipeRunsUptoCard
end Rows
end Go.Proofs.YtifflnhooaophaaGreatDoor
