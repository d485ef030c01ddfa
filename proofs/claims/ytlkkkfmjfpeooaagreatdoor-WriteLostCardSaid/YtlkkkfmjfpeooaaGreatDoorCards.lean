/-
  DERIVED. GIVEN WITH THE SEED: THE CARDS: each row of YtlkkkfmjfpeooaaGreatDoorRows.lean that lists a variable, with what it lists TIED to the program's text (the seventh form; the later family's looks); each row that meets fmt, with fmt's text TOLD by the authors' own Lean function (tested against real Go, not proved from fmt's source: count such statements apart). THE CARD IS WHAT COUNTS. Prove the row's statement (the work); the ties are given (YtlkkkfmjfpeooaaGreatDoorTie.lean); close each card by the builder's one call (the guide's Derived/Test/ToyasCard.lean, 'card_holds'). Laid BY PROGRAM, IN A SANDBOX (cutbox-door.mjs). By AI agents, Wed Nov 11 2026. No macro, syntax, notation, axiom, sorry.
-/
import Derived.Test.YtlkkkfmjfpeooaaGreatDoorRows
import GoSem.ClaimSeven
namespace Go.Proofs.YtlkkkfmjfpeooaaGreatDoor
namespace Rows

/-- THE TIED CARD OF 'bootjacklaw21.WriteWhole'. -/
def writeWholeCard : Claim7 := { stood := { row := writeWholeRow, standIns := [], harness := (true, "ce802e8f2e45f94ef987235a31f2294e432e802e23dafe65476186e77beff834"), looks := true }, kinds := [], alts := [], laidByText := true, laidKinds := [.data, .data, .pinned, .pinned, .pinned], laidTests := true, laidLooks := .later }
def WriteWholeCardSaid : Prop := Claim7.holds Tryz.pinned (.plain (OpenSpec.ofChange writeWholeSpec)) writeWholeCard

/-- THE TIED CARD OF 'bootjacklaw21.WriteNames'. -/
def writeNamesCard : Claim7 := { stood := { row := writeNamesRow, standIns := [], harness := (true, "ce802e8f2e45f94ef987235a31f2294e432e802e23dafe65476186e77beff834"), looks := true }, kinds := [], alts := [], laidByText := true, laidKinds := [.data, .data, .pinned, .pinned, .pinned], laidTests := true, laidLooks := .later }
def WriteNamesCardSaid : Prop := Claim7.holds Tryz.pinned (.plain (OpenSpec.ofChange writeNamesSpec)) writeNamesCard

/-- THE TIED CARD OF 'bootjacklaw21.WriteLost'. -/
def writeLostCard : Claim7 := { stood := { row := writeLostRow, standIns := [], harness := (true, "ce802e8f2e45f94ef987235a31f2294e432e802e23dafe65476186e77beff834"), looks := true }, kinds := [], alts := [], laidByText := true, laidKinds := [.data, .data, .pinned, .pinned, .pinned], laidTests := true, laidLooks := .later }
def WriteLostCardSaid : Prop := Claim7.holds Tryz.pinned (.plain (OpenSpec.ofChange writeLostSpec)) writeLostCard

/-- THE SECOND FORM's CARD OF 'bootjacklaw21.WriteWhole'. -/
def writeWholeUptoCard : Claim7 := { stood := { row := writeWholeUptoRow, standIns := [], harness := (true, "ce802e8f2e45f94ef987235a31f2294e432e802e23dafe65476186e77beff834"), looks := true }, kinds := [], alts := [], laidByText := true, laidKinds := [.data, .data, .pinned, .pinned, .pinned], laidTests := true, laidLooks := .later }
def WriteWholeUptoCardSaid : Prop := Claim7.holds Tryz.pinned (.plain (OpenSpec.upto writeWholeSpec)) writeWholeUptoCard

/-- THE SECOND FORM's CARD OF 'bootjacklaw21.WriteNames'. -/
def writeNamesUptoCard : Claim7 := { stood := { row := writeNamesUptoRow, standIns := [], harness := (true, "ce802e8f2e45f94ef987235a31f2294e432e802e23dafe65476186e77beff834"), looks := true }, kinds := [], alts := [], laidByText := true, laidKinds := [.data, .data, .pinned, .pinned, .pinned], laidTests := true, laidLooks := .later }
def WriteNamesUptoCardSaid : Prop := Claim7.holds Tryz.pinned (.plain (OpenSpec.upto writeNamesSpec)) writeNamesUptoCard

/-- THE SECOND FORM's CARD OF 'bootjacklaw21.WriteLost'. -/
def writeLostUptoCard : Claim7 := { stood := { row := writeLostUptoRow, standIns := [], harness := (true, "ce802e8f2e45f94ef987235a31f2294e432e802e23dafe65476186e77beff834"), looks := true }, kinds := [], alts := [], laidByText := true, laidKinds := [.data, .data, .pinned, .pinned, .pinned], laidTests := true, laidLooks := .later }
def WriteLostUptoCardSaid : Prop := Claim7.holds Tryz.pinned (.plain (OpenSpec.upto writeLostSpec)) writeLostUptoCard
end Rows
end Go.Proofs.YtlkkkfmjfpeooaaGreatDoor
