/-
  No cell of these rows narrows 'for every input' (looked for: loops, veiled, ifaces, maps, wideKeys, modest, calm, conditions, laid).
  DERIVED. THE GIVEN ROWS OF THIS SEAT. 7 by the template 'for every input the law returns true; each argument reads behind the call as it read before'; 0 by the template 'total and deterministic' (their statements: YtccblhllmplmaaaTotals.lean).
  GIVEN WITH THE SEED: the statements are not yours to turn. If you find one false, say at which input.
  Laid BY PROGRAM, IN A SANDBOX (cutbox-rows.mjs): the forced cells as the released guide's own fill.sh prints them over the translation 4d5223f3923734d5… (all of the seat's roots in one cut). By AI agents, Wed Nov 11 2026. No macro, syntax, notation, axiom, sorry.
-/
import Derived.Test.YtccblhllmplmaaaChecked
import GoSem.Claim
import GoSem.ClaimJoined
import GoSem.ClaimMapViews
import Derived.JoinedTies
import Derived.KernelRfl
namespace Go.Proofs.Ytccblhllmplmaaa
/- THE CELL 'sum', in the pinned program and in every row, IS THE sha256 OF THE DUMP (.gsa) THAT YtccblhllmplmaaaProg.lean LOADS. Nothing in Lean hashes anything: it is a label: what it is worth is what the hold of that sum in a sandbox is worth. -/
noncomputable def Try.pinned : Pinned := { name := "ytccblhllmplmaaa", sum := "4d5223f3923734d58d0003144e76c77b0021b9983296327ce36b19d477d459cc", checked := Try.checked }
namespace Rows
def none {H : Type} : Left H := { results := [], args := [] }

/-- 'bootjacklaw11.TableNames': WHATEVER THE INPUT: true; the input reads as it did. -/
def tableNamesSpec : ChangeSpec := { name := "tableNames", fn := fun _ => fun
  | [] => { results := [.lit (.bool true)], args := [] }
  | _ => none }
def tableNamesRow : OpenClaim := { program := "ytccblhllmplmaaa", sum := "4d5223f3923734d58d0003144e76c77b0021b9983296327ce36b19d477d459cc", func := "bootjack/bootjacklaw11.TableNames", spec := "tableNames", unfollowed := true, recurses := true, apart := false }
def TableNamesSaid : Prop := tableNamesRow.holds Try.pinned (OpenSpec.ofChange tableNamesSpec)

/-- ITS FALSE NEIGHBOUR: 'it returns false'. Refute it at one input. -/
def tableNamesWrong : ChangeSpec := { name := "tableNames", fn := fun _ => fun
  | [] => { results := [.lit (.bool false)], args := [] }
  | _ => none }
def TableNamesWrongFalsely : Prop := tableNamesRow.holds Try.pinned (OpenSpec.ofChange tableNamesWrong)

/-- 'bootjacklaw11.TableApplies': WHATEVER THE INPUT: true; the input reads as it did. -/
def tableAppliesSpec : ChangeSpec := { name := "tableApplies", fn := fun _ => fun
  | [d1, d2] => { results := [.lit (.bool true)], args := [d1, d2] }
  | _ => none }
def tableAppliesRow : OpenClaim := { program := "ytccblhllmplmaaa", sum := "4d5223f3923734d58d0003144e76c77b0021b9983296327ce36b19d477d459cc", func := "bootjack/bootjacklaw11.TableApplies", spec := "tableApplies", unfollowed := true, recurses := true, apart := false }
def TableAppliesSaid : Prop := tableAppliesRow.holds Try.pinned (OpenSpec.ofChange tableAppliesSpec)

/-- ITS FALSE NEIGHBOUR: 'it returns false'. Refute it at one input. -/
def tableAppliesWrong : ChangeSpec := { name := "tableApplies", fn := fun _ => fun
  | [d1, d2] => { results := [.lit (.bool false)], args := [d1, d2] }
  | _ => none }
def TableAppliesWrongFalsely : Prop := tableAppliesRow.holds Try.pinned (OpenSpec.ofChange tableAppliesWrong)

/-- 'bootjacklaw11.TableReads': WHATEVER THE INPUT: true; the input reads as it did. -/
def tableReadsSpec : ChangeSpec := { name := "tableReads", fn := fun _ => fun
  | [d] => { results := [.lit (.bool true)], args := [d] }
  | _ => none }
def tableReadsRow : OpenClaim := { program := "ytccblhllmplmaaa", sum := "4d5223f3923734d58d0003144e76c77b0021b9983296327ce36b19d477d459cc", func := "bootjack/bootjacklaw11.TableReads", spec := "tableReads", unfollowed := true, recurses := true, apart := false }
def TableReadsSaid : Prop := tableReadsRow.holds Try.pinned (OpenSpec.ofChange tableReadsSpec)

/-- ITS FALSE NEIGHBOUR: 'it returns false'. Refute it at one input. -/
def tableReadsWrong : ChangeSpec := { name := "tableReads", fn := fun _ => fun
  | [d] => { results := [.lit (.bool false)], args := [d] }
  | _ => none }
def TableReadsWrongFalsely : Prop := tableReadsRow.holds Try.pinned (OpenSpec.ofChange tableReadsWrong)

/-- 'bootjacklaw11.TableBack': WHATEVER THE INPUT: true; the input reads as it did. -/
def tableBackSpec : ChangeSpec := { name := "tableBack", fn := fun _ => fun
  | [d1, d2] => { results := [.lit (.bool true)], args := [d1, d2] }
  | _ => none }
def tableBackRow : OpenClaim := { program := "ytccblhllmplmaaa", sum := "4d5223f3923734d58d0003144e76c77b0021b9983296327ce36b19d477d459cc", func := "bootjack/bootjacklaw11.TableBack", spec := "tableBack", unfollowed := true, recurses := true, apart := false }
def TableBackSaid : Prop := tableBackRow.holds Try.pinned (OpenSpec.ofChange tableBackSpec)

/-- ITS FALSE NEIGHBOUR: 'it returns false'. Refute it at one input. -/
def tableBackWrong : ChangeSpec := { name := "tableBack", fn := fun _ => fun
  | [d1, d2] => { results := [.lit (.bool false)], args := [d1, d2] }
  | _ => none }
def TableBackWrongFalsely : Prop := tableBackRow.holds Try.pinned (OpenSpec.ofChange tableBackWrong)

/-- 'bootjacklaw11.TableSlots': WHATEVER THE INPUT: true; the input reads as it did. -/
def tableSlotsSpec : ChangeSpec := { name := "tableSlots", fn := fun _ => fun
  | [d1, d2, d3] => { results := [.lit (.bool true)], args := [d1, d2, d3] }
  | _ => none }
def tableSlotsRow : OpenClaim := { program := "ytccblhllmplmaaa", sum := "4d5223f3923734d58d0003144e76c77b0021b9983296327ce36b19d477d459cc", func := "bootjack/bootjacklaw11.TableSlots", spec := "tableSlots", unfollowed := true, recurses := true, apart := false }
def TableSlotsSaid : Prop := tableSlotsRow.holds Try.pinned (OpenSpec.ofChange tableSlotsSpec)

/-- ITS FALSE NEIGHBOUR: 'it returns false'. Refute it at one input. -/
def tableSlotsWrong : ChangeSpec := { name := "tableSlots", fn := fun _ => fun
  | [d1, d2, d3] => { results := [.lit (.bool false)], args := [d1, d2, d3] }
  | _ => none }
def TableSlotsWrongFalsely : Prop := tableSlotsRow.holds Try.pinned (OpenSpec.ofChange tableSlotsWrong)

/-- 'bootjacklaw11.TableFull': WHATEVER THE INPUT: true; the input reads as it did. -/
def tableFullSpec : ChangeSpec := { name := "tableFull", fn := fun _ => fun
  | [d1, d2, d3] => { results := [.lit (.bool true)], args := [d1, d2, d3] }
  | _ => none }
def tableFullRow : OpenClaim := { program := "ytccblhllmplmaaa", sum := "4d5223f3923734d58d0003144e76c77b0021b9983296327ce36b19d477d459cc", func := "bootjack/bootjacklaw11.TableFull", spec := "tableFull", unfollowed := true, recurses := true, apart := false }
def TableFullSaid : Prop := tableFullRow.holds Try.pinned (OpenSpec.ofChange tableFullSpec)

/-- ITS FALSE NEIGHBOUR: 'it returns false'. Refute it at one input. -/
def tableFullWrong : ChangeSpec := { name := "tableFull", fn := fun _ => fun
  | [d1, d2, d3] => { results := [.lit (.bool false)], args := [d1, d2, d3] }
  | _ => none }
def TableFullWrongFalsely : Prop := tableFullRow.holds Try.pinned (OpenSpec.ofChange tableFullWrong)

/-- 'bootjacklaw11.TableHolds': WHATEVER THE INPUT: true; the input reads as it did. -/
def tableHoldsSpec : ChangeSpec := { name := "tableHolds", fn := fun _ => fun
  | [d1, d2] => { results := [.lit (.bool true)], args := [d1, d2] }
  | _ => none }
def tableHoldsRow : OpenClaim := { program := "ytccblhllmplmaaa", sum := "4d5223f3923734d58d0003144e76c77b0021b9983296327ce36b19d477d459cc", func := "bootjack/bootjacklaw11.TableHolds", spec := "tableHolds", unfollowed := true, recurses := true, apart := false }
def TableHoldsSaid : Prop := tableHoldsRow.holds Try.pinned (OpenSpec.ofChange tableHoldsSpec)

/-- ITS FALSE NEIGHBOUR: 'it returns false'. Refute it at one input. -/
def tableHoldsWrong : ChangeSpec := { name := "tableHolds", fn := fun _ => fun
  | [d1, d2] => { results := [.lit (.bool false)], args := [d1, d2] }
  | _ => none }
def TableHoldsWrongFalsely : Prop := tableHoldsRow.holds Try.pinned (OpenSpec.ofChange tableHoldsWrong)

/- THE SECOND FORM. 'bulk': how many values and letters a reading holds, each counted each time it is reached (what is shared counts as often as it is met; a slice's spare places count too). A statement '..UptoSaid' is the law's where the arguments, and the package variables that the reading takes, are together of bulk at most 1048576: NARROWER than '..Said'. Prove '..Said' where nothing that the law and all that it calls make is longer than what came in: it says more and counts as full. Else prove '..UptoSaid'. A law counts once. -/
mutual
def uptoBulk {H : Type} : DataW H → Nat
  | .lit (.string bytes) => bytes.length + 1
  | .lit _ => 1
  | .nil => 1
  | .ptr d => uptoBulk d + 1
  | .slice elems spare => uptoBulkAll elems + uptoBulkAll spare + 1
  | .agg parts => uptoBulkAll parts + 1
  | .iface _ d => uptoBulk d + 1
  | .map entries => uptoBulkEntries entries + 1
  | .held _ => 1
def uptoBulkAll {H : Type} : List (DataW H) → Nat
  | [] => 0
  | d :: r => uptoBulk d + uptoBulkAll r
def uptoBulkEntries {H : Type} : List (Lit × DataW H) → Nat
  | [] => 0
  | x :: r => uptoBulkEntry x + uptoBulkEntries r
def uptoBulkEntry {H : Type} : Lit × DataW H → Nat
  | (.string bytes, d) => bytes.length + uptoBulk d + 1
  | (_, d) => uptoBulk d + 1
 end
def uptoSmall : (H : Type) → List (DataW H) → Bool := fun _ ds => decide (uptoBulkAll ds ≤ 1048576)
def OpenSpec.upto (s : _root_.Go.ChangeSpec) : _root_.Go.OpenSpec := { _root_.Go.OpenSpec.ofChange s with cond := some uptoSmall }

/-- 'bootjacklaw11.TableNames', WHERE WHAT IT READS IS OF BULK AT MOST 1048576: true; the input reads as it did. -/
def tableNamesUptoRow : OpenClaim := { program := "ytccblhllmplmaaa", sum := "4d5223f3923734d58d0003144e76c77b0021b9983296327ce36b19d477d459cc", func := "bootjack/bootjacklaw11.TableNames", spec := "tableNames", unfollowed := true, recurses := true, apart := false, narrowed := true }
def TableNamesUptoSaid : Prop := tableNamesUptoRow.holds Try.pinned (OpenSpec.upto tableNamesSpec)

/-- 'bootjacklaw11.TableApplies', WHERE WHAT IT READS IS OF BULK AT MOST 1048576: true; the input reads as it did. -/
def tableAppliesUptoRow : OpenClaim := { program := "ytccblhllmplmaaa", sum := "4d5223f3923734d58d0003144e76c77b0021b9983296327ce36b19d477d459cc", func := "bootjack/bootjacklaw11.TableApplies", spec := "tableApplies", unfollowed := true, recurses := true, apart := false, narrowed := true }
def TableAppliesUptoSaid : Prop := tableAppliesUptoRow.holds Try.pinned (OpenSpec.upto tableAppliesSpec)

/-- 'bootjacklaw11.TableReads', WHERE WHAT IT READS IS OF BULK AT MOST 1048576: true; the input reads as it did. -/
def tableReadsUptoRow : OpenClaim := { program := "ytccblhllmplmaaa", sum := "4d5223f3923734d58d0003144e76c77b0021b9983296327ce36b19d477d459cc", func := "bootjack/bootjacklaw11.TableReads", spec := "tableReads", unfollowed := true, recurses := true, apart := false, narrowed := true }
def TableReadsUptoSaid : Prop := tableReadsUptoRow.holds Try.pinned (OpenSpec.upto tableReadsSpec)

/-- 'bootjacklaw11.TableBack', WHERE WHAT IT READS IS OF BULK AT MOST 1048576: true; the input reads as it did. -/
def tableBackUptoRow : OpenClaim := { program := "ytccblhllmplmaaa", sum := "4d5223f3923734d58d0003144e76c77b0021b9983296327ce36b19d477d459cc", func := "bootjack/bootjacklaw11.TableBack", spec := "tableBack", unfollowed := true, recurses := true, apart := false, narrowed := true }
def TableBackUptoSaid : Prop := tableBackUptoRow.holds Try.pinned (OpenSpec.upto tableBackSpec)

/-- 'bootjacklaw11.TableSlots', WHERE WHAT IT READS IS OF BULK AT MOST 1048576: true; the input reads as it did. -/
def tableSlotsUptoRow : OpenClaim := { program := "ytccblhllmplmaaa", sum := "4d5223f3923734d58d0003144e76c77b0021b9983296327ce36b19d477d459cc", func := "bootjack/bootjacklaw11.TableSlots", spec := "tableSlots", unfollowed := true, recurses := true, apart := false, narrowed := true }
def TableSlotsUptoSaid : Prop := tableSlotsUptoRow.holds Try.pinned (OpenSpec.upto tableSlotsSpec)

/-- 'bootjacklaw11.TableFull', WHERE WHAT IT READS IS OF BULK AT MOST 1048576: true; the input reads as it did. -/
def tableFullUptoRow : OpenClaim := { program := "ytccblhllmplmaaa", sum := "4d5223f3923734d58d0003144e76c77b0021b9983296327ce36b19d477d459cc", func := "bootjack/bootjacklaw11.TableFull", spec := "tableFull", unfollowed := true, recurses := true, apart := false, narrowed := true }
def TableFullUptoSaid : Prop := tableFullUptoRow.holds Try.pinned (OpenSpec.upto tableFullSpec)

/-- 'bootjacklaw11.TableHolds', WHERE WHAT IT READS IS OF BULK AT MOST 1048576: true; the input reads as it did. -/
def tableHoldsUptoRow : OpenClaim := { program := "ytccblhllmplmaaa", sum := "4d5223f3923734d58d0003144e76c77b0021b9983296327ce36b19d477d459cc", func := "bootjack/bootjacklaw11.TableHolds", spec := "tableHolds", unfollowed := true, recurses := true, apart := false, narrowed := true }
def TableHoldsUptoSaid : Prop := tableHoldsUptoRow.holds Try.pinned (OpenSpec.upto tableHoldsSpec)

end Rows
end Go.Proofs.Ytccblhllmplmaaa
