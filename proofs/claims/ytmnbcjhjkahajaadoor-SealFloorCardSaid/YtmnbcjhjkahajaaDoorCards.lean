/-
  DERIVED. GIVEN WITH THE SEED: THE CARDS: each row of YtmnbcjhjkahajaaDoorRows.lean that lists a variable, with what it lists TIED to the program's text (the seventh form; the later family's looks); each row that meets fmt, with fmt's text TOLD by the authors' own Lean function (tested against real Go, not proved from fmt's source: count such statements apart). THE CARD IS WHAT COUNTS. Prove the row's statement (the work); the ties are given (YtmnbcjhjkahajaaDoorTie.lean); close each card by the builder's one call (the guide's Derived/Test/ToyasCard.lean, 'card_holds'). Laid BY PROGRAM, IN A SANDBOX (cutbox-door.mjs). By AI agents, Wed Nov 11 2026. No macro, syntax, notation, axiom, sorry.
-/
import Derived.Test.YtmnbcjhjkahajaaDoorRows
import GoSem.ClaimSeven
namespace Go.Proofs.YtmnbcjhjkahajaaDoor
namespace Rows

/-- THE TIED CARD OF 'bootjacklaw14.SealOpens'. -/
def sealOpensCard : Claim7 := { stood := { row := sealOpensRow, standIns := [], harness := (true, "708ecfd7cf2afe0dc9e8416ccb67fea9c32423025cd7ce1432a9af9bbc7fc974"), looks := false }, kinds := [], alts := [], laidByText := true, laidKinds := [.data, .data, .pinned, .pinned, .pinned], laidTests := true, laidLooks := .later }
def SealOpensCardSaid : Prop := Claim7.holds Tryd.pinned (.plain (OpenSpec.ofChange sealOpensSpec)) sealOpensCard

/-- THE TIED CARD OF 'bootjacklaw14.SealShort'. -/
def sealShortCard : Claim7 := { stood := { row := sealShortRow, standIns := [], harness := (true, "708ecfd7cf2afe0dc9e8416ccb67fea9c32423025cd7ce1432a9af9bbc7fc974"), looks := false }, kinds := [], alts := [], laidByText := true, laidKinds := [.data, .data, .pinned, .pinned, .pinned], laidTests := true, laidLooks := .later }
def SealShortCardSaid : Prop := Claim7.holds Tryd.pinned (.plain (OpenSpec.ofChange sealShortSpec)) sealShortCard

/-- THE TIED CARD OF 'bootjacklaw14.SealOnly'. -/
def sealOnlyCard : Claim7 := { stood := { row := sealOnlyRow, standIns := [], harness := (true, "708ecfd7cf2afe0dc9e8416ccb67fea9c32423025cd7ce1432a9af9bbc7fc974"), looks := false }, kinds := [], alts := [], laidByText := true, laidKinds := [.data, .data, .pinned, .pinned, .pinned], laidTests := true, laidLooks := .later }
def SealOnlyCardSaid : Prop := Claim7.holds Tryd.pinned (.plain (OpenSpec.ofChange sealOnlySpec)) sealOnlyCard

/-- THE TIED CARD OF 'bootjacklaw14.SealHeads'. -/
def sealHeadsCard : Claim7 := { stood := { row := sealHeadsRow, standIns := [], harness := (true, "708ecfd7cf2afe0dc9e8416ccb67fea9c32423025cd7ce1432a9af9bbc7fc974"), looks := false }, kinds := [], alts := [], laidByText := true, laidKinds := [.data, .data, .pinned, .pinned, .pinned], laidTests := true, laidLooks := .later }
def SealHeadsCardSaid : Prop := Claim7.holds Tryd.pinned (.plain (OpenSpec.ofChange sealHeadsSpec)) sealHeadsCard

/-- THE TIED CARD OF 'bootjacklaw14.SealNames'. -/
def sealNamesCard : Claim7 := { stood := { row := sealNamesRow, standIns := [], harness := (true, "708ecfd7cf2afe0dc9e8416ccb67fea9c32423025cd7ce1432a9af9bbc7fc974"), looks := false }, kinds := [], alts := [], laidByText := true, laidKinds := [.data, .data, .pinned, .pinned, .pinned, .pinned], laidTests := true, laidLooks := .later }
def SealNamesCardSaid : Prop := Claim7.holds Tryd.pinned (.plain (OpenSpec.ofChange sealNamesSpec)) sealNamesCard

/-- THE TIED CARD OF 'bootjacklaw14.SealAdmits'. -/
def sealAdmitsCard : Claim7 := { stood := { row := sealAdmitsRow, standIns := [], harness := (true, "708ecfd7cf2afe0dc9e8416ccb67fea9c32423025cd7ce1432a9af9bbc7fc974"), looks := false }, kinds := [], alts := [], laidByText := true, laidKinds := [.data, .data, .pinned, .pinned, .pinned, .pinned], laidTests := true, laidLooks := .later }
def SealAdmitsCardSaid : Prop := Claim7.holds Tryd.pinned (.plain (OpenSpec.ofChange sealAdmitsSpec)) sealAdmitsCard

/-- THE TIED CARD OF 'bootjacklaw14.SealFloor'. -/
def sealFloorCard : Claim7 := { stood := { row := sealFloorRow, standIns := [], harness := (true, "708ecfd7cf2afe0dc9e8416ccb67fea9c32423025cd7ce1432a9af9bbc7fc974"), looks := false }, kinds := [], alts := [], laidByText := true, laidKinds := [.data, .data, .pinned, .pinned, .pinned, .pinned], laidTests := true, laidLooks := .later }
def SealFloorCardSaid : Prop := Claim7.holds Tryd.pinned (.plain (OpenSpec.ofChange sealFloorSpec)) sealFloorCard

/-- THE SECOND FORM's CARD OF 'bootjacklaw14.SealOpens'. -/
def sealOpensUptoCard : Claim7 := { stood := { row := sealOpensUptoRow, standIns := [], harness := (true, "708ecfd7cf2afe0dc9e8416ccb67fea9c32423025cd7ce1432a9af9bbc7fc974"), looks := false }, kinds := [], alts := [], laidByText := true, laidKinds := [.data, .data, .pinned, .pinned, .pinned], laidTests := true, laidLooks := .later }
def SealOpensUptoCardSaid : Prop := Claim7.holds Tryd.pinned (.plain (OpenSpec.upto sealOpensSpec)) sealOpensUptoCard

/-- THE SECOND FORM's CARD OF 'bootjacklaw14.SealShort'. -/
def sealShortUptoCard : Claim7 := { stood := { row := sealShortUptoRow, standIns := [], harness := (true, "708ecfd7cf2afe0dc9e8416ccb67fea9c32423025cd7ce1432a9af9bbc7fc974"), looks := false }, kinds := [], alts := [], laidByText := true, laidKinds := [.data, .data, .pinned, .pinned, .pinned], laidTests := true, laidLooks := .later }
def SealShortUptoCardSaid : Prop := Claim7.holds Tryd.pinned (.plain (OpenSpec.upto sealShortSpec)) sealShortUptoCard

/-- THE SECOND FORM's CARD OF 'bootjacklaw14.SealOnly'. -/
def sealOnlyUptoCard : Claim7 := { stood := { row := sealOnlyUptoRow, standIns := [], harness := (true, "708ecfd7cf2afe0dc9e8416ccb67fea9c32423025cd7ce1432a9af9bbc7fc974"), looks := false }, kinds := [], alts := [], laidByText := true, laidKinds := [.data, .data, .pinned, .pinned, .pinned], laidTests := true, laidLooks := .later }
def SealOnlyUptoCardSaid : Prop := Claim7.holds Tryd.pinned (.plain (OpenSpec.upto sealOnlySpec)) sealOnlyUptoCard

/-- THE SECOND FORM's CARD OF 'bootjacklaw14.SealHeads'. -/
def sealHeadsUptoCard : Claim7 := { stood := { row := sealHeadsUptoRow, standIns := [], harness := (true, "708ecfd7cf2afe0dc9e8416ccb67fea9c32423025cd7ce1432a9af9bbc7fc974"), looks := false }, kinds := [], alts := [], laidByText := true, laidKinds := [.data, .data, .pinned, .pinned, .pinned], laidTests := true, laidLooks := .later }
def SealHeadsUptoCardSaid : Prop := Claim7.holds Tryd.pinned (.plain (OpenSpec.upto sealHeadsSpec)) sealHeadsUptoCard

/-- THE SECOND FORM's CARD OF 'bootjacklaw14.SealNames'. -/
def sealNamesUptoCard : Claim7 := { stood := { row := sealNamesUptoRow, standIns := [], harness := (true, "708ecfd7cf2afe0dc9e8416ccb67fea9c32423025cd7ce1432a9af9bbc7fc974"), looks := false }, kinds := [], alts := [], laidByText := true, laidKinds := [.data, .data, .pinned, .pinned, .pinned, .pinned], laidTests := true, laidLooks := .later }
def SealNamesUptoCardSaid : Prop := Claim7.holds Tryd.pinned (.plain (OpenSpec.upto sealNamesSpec)) sealNamesUptoCard

/-- THE SECOND FORM's CARD OF 'bootjacklaw14.SealAdmits'. -/
def sealAdmitsUptoCard : Claim7 := { stood := { row := sealAdmitsUptoRow, standIns := [], harness := (true, "708ecfd7cf2afe0dc9e8416ccb67fea9c32423025cd7ce1432a9af9bbc7fc974"), looks := false }, kinds := [], alts := [], laidByText := true, laidKinds := [.data, .data, .pinned, .pinned, .pinned, .pinned], laidTests := true, laidLooks := .later }
def SealAdmitsUptoCardSaid : Prop := Claim7.holds Tryd.pinned (.plain (OpenSpec.upto sealAdmitsSpec)) sealAdmitsUptoCard

/-- THE SECOND FORM's CARD OF 'bootjacklaw14.SealFloor'. -/
def sealFloorUptoCard : Claim7 := { stood := { row := sealFloorUptoRow, standIns := [], harness := (true, "708ecfd7cf2afe0dc9e8416ccb67fea9c32423025cd7ce1432a9af9bbc7fc974"), looks := false }, kinds := [], alts := [], laidByText := true, laidKinds := [.data, .data, .pinned, .pinned, .pinned, .pinned], laidTests := true, laidLooks := .later }
def SealFloorUptoCardSaid : Prop := Claim7.holds Tryd.pinned (.plain (OpenSpec.upto sealFloorSpec)) sealFloorUptoCard
end Rows
end Go.Proofs.YtmnbcjhjkahajaaDoor
