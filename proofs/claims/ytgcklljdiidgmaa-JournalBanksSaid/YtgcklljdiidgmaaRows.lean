/-
  No cell of these rows narrows 'for every input' (looked for: loops, veiled, ifaces, maps, wideKeys, modest, calm, conditions, laid).
  DERIVED. THE GIVEN ROWS OF THIS SEAT. 3 by the template 'for every input the law returns true; each argument reads behind the call as it read before'; 0 by the template 'total and deterministic' (their statements: YtgcklljdiidgmaaTotals.lean).
  GIVEN WITH THE SEED: the statements are not yours to turn. If you find one false, say at which input.
  Laid BY PROGRAM, IN A SANDBOX (cutbox-rows.mjs): the forced cells as the released guide's own fill.sh prints them over the translation 30d5a41f018a4d2c… (all of the seat's roots in one cut). By AI agents, Wed Nov 11 2026. No macro, syntax, notation, axiom, sorry.
-/
import Derived.Test.YtgcklljdiidgmaaChecked
import GoSem.Claim
import GoSem.ClaimJoined
import GoSem.ClaimMapViews
import Derived.JoinedTies
import Derived.KernelRfl
namespace Go.Proofs.Ytgcklljdiidgmaa
/- THE CELL 'sum', in the pinned program and in every row, IS THE sha256 OF THE DUMP (.gsa) THAT YtgcklljdiidgmaaProg.lean LOADS. Nothing in Lean hashes anything: it is a label: what it is worth is what the hold of that sum in a sandbox is worth. -/
noncomputable def Try.pinned : Pinned := { name := "ytgcklljdiidgmaa", sum := "30d5a41f018a4d2cf3bc8d71df85b978e8a35046464f1face94922dde864d68b", checked := Try.checked }
namespace Rows
def none {H : Type} : Left H := { results := [], args := [] }

/-- 'bootjacklaw09.JournalNames': WHATEVER THE INPUT: true; the input reads as it did. -/
def journalNamesSpec : ChangeSpec := { name := "journalNames", fn := fun _ => fun
  | [] => { results := [.lit (.bool true)], args := [] }
  | _ => none }
def journalNamesRow : OpenClaim := { program := "ytgcklljdiidgmaa", sum := "30d5a41f018a4d2cf3bc8d71df85b978e8a35046464f1face94922dde864d68b", func := "bootjack/bootjacklaw09.JournalNames", spec := "journalNames", unfollowed := true, recurses := true, apart := false }
def JournalNamesSaid : Prop := journalNamesRow.holds Try.pinned (OpenSpec.ofChange journalNamesSpec)

/-- ITS FALSE NEIGHBOUR: 'it returns false'. Refute it at one input. -/
def journalNamesWrong : ChangeSpec := { name := "journalNames", fn := fun _ => fun
  | [] => { results := [.lit (.bool false)], args := [] }
  | _ => none }
def JournalNamesWrongFalsely : Prop := journalNamesRow.holds Try.pinned (OpenSpec.ofChange journalNamesWrong)

/-- 'bootjacklaw09.JournalBanks': WHATEVER THE INPUT: true; the input reads as it did. -/
def journalBanksSpec : ChangeSpec := { name := "journalBanks", fn := fun _ => fun
  | [d] => { results := [.lit (.bool true)], args := [d] }
  | _ => none }
def journalBanksRow : OpenClaim := { program := "ytgcklljdiidgmaa", sum := "30d5a41f018a4d2cf3bc8d71df85b978e8a35046464f1face94922dde864d68b", func := "bootjack/bootjacklaw09.JournalBanks", spec := "journalBanks", unfollowed := true, recurses := true, apart := false }
def JournalBanksSaid : Prop := journalBanksRow.holds Try.pinned (OpenSpec.ofChange journalBanksSpec)

/-- ITS FALSE NEIGHBOUR: 'it returns false'. Refute it at one input. -/
def journalBanksWrong : ChangeSpec := { name := "journalBanks", fn := fun _ => fun
  | [d] => { results := [.lit (.bool false)], args := [d] }
  | _ => none }
def JournalBanksWrongFalsely : Prop := journalBanksRow.holds Try.pinned (OpenSpec.ofChange journalBanksWrong)

/-- 'bootjacklaw09.JournalHolds': WHATEVER THE INPUT: true; the input reads as it did. -/
def journalHoldsSpec : ChangeSpec := { name := "journalHolds", fn := fun _ => fun
  | [d1, d2] => { results := [.lit (.bool true)], args := [d1, d2] }
  | _ => none }
def journalHoldsRow : OpenClaim := { program := "ytgcklljdiidgmaa", sum := "30d5a41f018a4d2cf3bc8d71df85b978e8a35046464f1face94922dde864d68b", func := "bootjack/bootjacklaw09.JournalHolds", spec := "journalHolds", unfollowed := true, recurses := true, apart := false }
def JournalHoldsSaid : Prop := journalHoldsRow.holds Try.pinned (OpenSpec.ofChange journalHoldsSpec)

/-- ITS FALSE NEIGHBOUR: 'it returns false'. Refute it at one input. -/
def journalHoldsWrong : ChangeSpec := { name := "journalHolds", fn := fun _ => fun
  | [d1, d2] => { results := [.lit (.bool false)], args := [d1, d2] }
  | _ => none }
def JournalHoldsWrongFalsely : Prop := journalHoldsRow.holds Try.pinned (OpenSpec.ofChange journalHoldsWrong)

/- THE SECOND FORM. 'bulk': how many values and letters a reading holds, each counted each time it is reached (what is shared counts as often as it is met; a slice's spare places count too). A statement '..UptoSaid' is the law's where the arguments, and the package variables that the reading takes, are together of bulk at most 1048576: NARROWER than '..Said'. Prove '..Said' where nothing that the law and all that it calls make is longer than what came in: it says more and counts as full. Else prove '..UptoSaid'. A law counts once. -/
mutual
def uptoBulk {H : Type} : DataW H → Nat
  | .lit (.string bytes) => bytes.length + 1
  | .lit _ => 1
  | .nil => 1
  | .ptr d => uptoBulk d + 1
  | .slice elems spare => uptoBulkAll elems + uptoBulkAll spare + 1
  | .agg parts => uptoBulkAll parts + 1
  | .iface _ d => uptoBulk d + 1
  | .map entries => uptoBulkEntries entries + 1
  | .held _ => 1
def uptoBulkAll {H : Type} : List (DataW H) → Nat
  | [] => 0
  | d :: r => uptoBulk d + uptoBulkAll r
def uptoBulkEntries {H : Type} : List (Lit × DataW H) → Nat
  | [] => 0
  | x :: r => uptoBulkEntry x + uptoBulkEntries r
def uptoBulkEntry {H : Type} : Lit × DataW H → Nat
  | (.string bytes, d) => bytes.length + uptoBulk d + 1
  | (_, d) => uptoBulk d + 1
 end
def uptoSmall : (H : Type) → List (DataW H) → Bool := fun _ ds => decide (uptoBulkAll ds ≤ 1048576)
def OpenSpec.upto (s : _root_.Go.ChangeSpec) : _root_.Go.OpenSpec := { _root_.Go.OpenSpec.ofChange s with cond := some uptoSmall }

/-- 'bootjacklaw09.JournalNames', WHERE WHAT IT READS IS OF BULK AT MOST 1048576: true; the input reads as it did. -/
def journalNamesUptoRow : OpenClaim := { program := "ytgcklljdiidgmaa", sum := "30d5a41f018a4d2cf3bc8d71df85b978e8a35046464f1face94922dde864d68b", func := "bootjack/bootjacklaw09.JournalNames", spec := "journalNames", unfollowed := true, recurses := true, apart := false, narrowed := true }
def JournalNamesUptoSaid : Prop := journalNamesUptoRow.holds Try.pinned (OpenSpec.upto journalNamesSpec)

/-- 'bootjacklaw09.JournalBanks', WHERE WHAT IT READS IS OF BULK AT MOST 1048576: true; the input reads as it did. -/
def journalBanksUptoRow : OpenClaim := { program := "ytgcklljdiidgmaa", sum := "30d5a41f018a4d2cf3bc8d71df85b978e8a35046464f1face94922dde864d68b", func := "bootjack/bootjacklaw09.JournalBanks", spec := "journalBanks", unfollowed := true, recurses := true, apart := false, narrowed := true }
def JournalBanksUptoSaid : Prop := journalBanksUptoRow.holds Try.pinned (OpenSpec.upto journalBanksSpec)

/-- 'bootjacklaw09.JournalHolds', WHERE WHAT IT READS IS OF BULK AT MOST 1048576: true; the input reads as it did. -/
def journalHoldsUptoRow : OpenClaim := { program := "ytgcklljdiidgmaa", sum := "30d5a41f018a4d2cf3bc8d71df85b978e8a35046464f1face94922dde864d68b", func := "bootjack/bootjacklaw09.JournalHolds", spec := "journalHolds", unfollowed := true, recurses := true, apart := false, narrowed := true }
def JournalHoldsUptoSaid : Prop := journalHoldsUptoRow.holds Try.pinned (OpenSpec.upto journalHoldsSpec)

end Rows
end Go.Proofs.Ytgcklljdiidgmaa
