/-
  No cell of these rows narrows 'for every input' (looked for: loops, veiled, ifaces, maps, wideKeys, modest, calm, conditions, laid).
  DERIVED. THE GIVEN ROWS OF THIS SEAT. 4 by the template 'for every input the law returns true; each argument reads behind the call as it read before'; 0 by the template 'total and deterministic' (their statements: YtkfbmfhfbfgojabTotals.lean).
  GIVEN WITH THE SEED: the statements are not yours to turn. If you find one false, say at which input.
  Laid BY PROGRAM, IN A SANDBOX (cutbox-rows.mjs): the forced cells as the released guide's own fill.sh prints them over the translation 1619bfa88fd8376d… (all of the seat's roots in one cut). By AI agents, Wed Nov 11 2026. No macro, syntax, notation, axiom, sorry.
-/
import Derived.Test.YtkfbmfhfbfgojabChecked
import GoSem.Claim
import GoSem.ClaimJoined
import GoSem.ClaimMapViews
import Derived.JoinedTies
import Derived.KernelRfl
namespace Go.Proofs.Ytkfbmfhfbfgojab
/- THE CELL 'sum', in the pinned program and in every row, IS THE sha256 OF THE DUMP (.gsa) THAT YtkfbmfhfbfgojabProg.lean LOADS. Nothing in Lean hashes anything: it is a label: what it is worth is what the hold of that sum in a sandbox is worth. -/
noncomputable def Try.pinned : Pinned := { name := "ytkfbmfhfbfgojab", sum := "1619bfa88fd8376d96ab62aa860511150b4447fd610abee7fc65067bbaa71d4d", checked := Try.checked }
namespace Rows
def none {H : Type} : Left H := { results := [], args := [] }

/-- 'bootjacklaw22.WatchNames': WHATEVER THE INPUT: true; the input reads as it did. -/
def watchNamesSpec : ChangeSpec := { name := "watchNames", fn := fun _ => fun
  | [] => { results := [.lit (.bool true)], args := [] }
  | _ => none }
def watchNamesRow : OpenClaim := { program := "ytkfbmfhfbfgojab", sum := "1619bfa88fd8376d96ab62aa860511150b4447fd610abee7fc65067bbaa71d4d", func := "bootjack/bootjacklaw22.WatchNames", spec := "watchNames", unfollowed := true, recurses := true, apart := false }
def WatchNamesSaid : Prop := watchNamesRow.holds Try.pinned (OpenSpec.ofChange watchNamesSpec)

/-- ITS FALSE NEIGHBOUR: 'it returns false'. Refute it at one input. -/
def watchNamesWrong : ChangeSpec := { name := "watchNames", fn := fun _ => fun
  | [] => { results := [.lit (.bool false)], args := [] }
  | _ => none }
def WatchNamesWrongFalsely : Prop := watchNamesRow.holds Try.pinned (OpenSpec.ofChange watchNamesWrong)

/-- 'bootjacklaw22.WatchRuns': WHATEVER THE INPUT: true; the input reads as it did. -/
def watchRunsSpec : ChangeSpec := { name := "watchRuns", fn := fun _ => fun
  | [d1, d2, d3] => { results := [.lit (.bool true)], args := [d1, d2, d3] }
  | _ => none }
def watchRunsRow : OpenClaim := { program := "ytkfbmfhfbfgojab", sum := "1619bfa88fd8376d96ab62aa860511150b4447fd610abee7fc65067bbaa71d4d", func := "bootjack/bootjacklaw22.WatchRuns", spec := "watchRuns", unfollowed := true, recurses := true, apart := false }
def WatchRunsSaid : Prop := watchRunsRow.holds Try.pinned (OpenSpec.ofChange watchRunsSpec)

/-- ITS FALSE NEIGHBOUR: 'it returns false'. Refute it at one input. -/
def watchRunsWrong : ChangeSpec := { name := "watchRuns", fn := fun _ => fun
  | [d1, d2, d3] => { results := [.lit (.bool false)], args := [d1, d2, d3] }
  | _ => none }
def WatchRunsWrongFalsely : Prop := watchRunsRow.holds Try.pinned (OpenSpec.ofChange watchRunsWrong)

/-- 'bootjacklaw22.WatchSeen': WHATEVER THE INPUT: true; the input reads as it did. -/
def watchSeenSpec : ChangeSpec := { name := "watchSeen", fn := fun _ => fun
  | [d1, d2, d3] => { results := [.lit (.bool true)], args := [d1, d2, d3] }
  | _ => none }
def watchSeenRow : OpenClaim := { program := "ytkfbmfhfbfgojab", sum := "1619bfa88fd8376d96ab62aa860511150b4447fd610abee7fc65067bbaa71d4d", func := "bootjack/bootjacklaw22.WatchSeen", spec := "watchSeen", unfollowed := true, recurses := true, apart := false }
def WatchSeenSaid : Prop := watchSeenRow.holds Try.pinned (OpenSpec.ofChange watchSeenSpec)

/-- ITS FALSE NEIGHBOUR: 'it returns false'. Refute it at one input. -/
def watchSeenWrong : ChangeSpec := { name := "watchSeen", fn := fun _ => fun
  | [d1, d2, d3] => { results := [.lit (.bool false)], args := [d1, d2, d3] }
  | _ => none }
def WatchSeenWrongFalsely : Prop := watchSeenRow.holds Try.pinned (OpenSpec.ofChange watchSeenWrong)

/-- 'bootjacklaw22.WatchTicks': WHATEVER THE INPUT: true; the input reads as it did. -/
def watchTicksSpec : ChangeSpec := { name := "watchTicks", fn := fun _ => fun
  | [d1, d2, d3] => { results := [.lit (.bool true)], args := [d1, d2, d3] }
  | _ => none }
def watchTicksRow : OpenClaim := { program := "ytkfbmfhfbfgojab", sum := "1619bfa88fd8376d96ab62aa860511150b4447fd610abee7fc65067bbaa71d4d", func := "bootjack/bootjacklaw22.WatchTicks", spec := "watchTicks", unfollowed := true, recurses := true, apart := false }
def WatchTicksSaid : Prop := watchTicksRow.holds Try.pinned (OpenSpec.ofChange watchTicksSpec)

/-- ITS FALSE NEIGHBOUR: 'it returns false'. Refute it at one input. -/
def watchTicksWrong : ChangeSpec := { name := "watchTicks", fn := fun _ => fun
  | [d1, d2, d3] => { results := [.lit (.bool false)], args := [d1, d2, d3] }
  | _ => none }
def WatchTicksWrongFalsely : Prop := watchTicksRow.holds Try.pinned (OpenSpec.ofChange watchTicksWrong)

/- THE SECOND FORM. 'bulk': how many values and letters a reading holds, each counted each time it is reached (what is shared counts as often as it is met; a slice's spare places count too). A statement '..UptoSaid' is the law's where the arguments, and the package variables that the reading takes, are together of bulk at most 1048576: NARROWER than '..Said'. Prove '..Said' where nothing that the law and all that it calls make is longer than what came in: it says more and counts as full. Else prove '..UptoSaid'. A law counts once. -/
mutual
def uptoBulk {H : Type} : DataW H → Nat
  | .lit (.string bytes) => bytes.length + 1
  | .lit _ => 1
  | .nil => 1
  | .ptr d => uptoBulk d + 1
  | .slice elems spare => uptoBulkAll elems + uptoBulkAll spare + 1
  | .agg parts => uptoBulkAll parts + 1
  | .iface _ d => uptoBulk d + 1
  | .map entries => uptoBulkEntries entries + 1
  | .held _ => 1
def uptoBulkAll {H : Type} : List (DataW H) → Nat
  | [] => 0
  | d :: r => uptoBulk d + uptoBulkAll r
def uptoBulkEntries {H : Type} : List (Lit × DataW H) → Nat
  | [] => 0
  | x :: r => uptoBulkEntry x + uptoBulkEntries r
def uptoBulkEntry {H : Type} : Lit × DataW H → Nat
  | (.string bytes, d) => bytes.length + uptoBulk d + 1
  | (_, d) => uptoBulk d + 1
 end
def uptoSmall : (H : Type) → List (DataW H) → Bool := fun _ ds => decide (uptoBulkAll ds ≤ 1048576)
def OpenSpec.upto (s : _root_.Go.ChangeSpec) : _root_.Go.OpenSpec := { _root_.Go.OpenSpec.ofChange s with cond := some uptoSmall }

/-- 'bootjacklaw22.WatchNames', WHERE WHAT IT READS IS OF BULK AT MOST 1048576: true; the input reads as it did. -/
def watchNamesUptoRow : OpenClaim := { program := "ytkfbmfhfbfgojab", sum := "1619bfa88fd8376d96ab62aa860511150b4447fd610abee7fc65067bbaa71d4d", func := "bootjack/bootjacklaw22.WatchNames", spec := "watchNames", unfollowed := true, recurses := true, apart := false, narrowed := true }
def WatchNamesUptoSaid : Prop := watchNamesUptoRow.holds Try.pinned (OpenSpec.upto watchNamesSpec)

/-- 'bootjacklaw22.WatchRuns', WHERE WHAT IT READS IS OF BULK AT MOST 1048576: true; the input reads as it did. -/
def watchRunsUptoRow : OpenClaim := { program := "ytkfbmfhfbfgojab", sum := "1619bfa88fd8376d96ab62aa860511150b4447fd610abee7fc65067bbaa71d4d", func := "bootjack/bootjacklaw22.WatchRuns", spec := "watchRuns", unfollowed := true, recurses := true, apart := false, narrowed := true }
def WatchRunsUptoSaid : Prop := watchRunsUptoRow.holds Try.pinned (OpenSpec.upto watchRunsSpec)

/-- 'bootjacklaw22.WatchSeen', WHERE WHAT IT READS IS OF BULK AT MOST 1048576: true; the input reads as it did. -/
def watchSeenUptoRow : OpenClaim := { program := "ytkfbmfhfbfgojab", sum := "1619bfa88fd8376d96ab62aa860511150b4447fd610abee7fc65067bbaa71d4d", func := "bootjack/bootjacklaw22.WatchSeen", spec := "watchSeen", unfollowed := true, recurses := true, apart := false, narrowed := true }
def WatchSeenUptoSaid : Prop := watchSeenUptoRow.holds Try.pinned (OpenSpec.upto watchSeenSpec)

/-- 'bootjacklaw22.WatchTicks', WHERE WHAT IT READS IS OF BULK AT MOST 1048576: true; the input reads as it did. -/
def watchTicksUptoRow : OpenClaim := { program := "ytkfbmfhfbfgojab", sum := "1619bfa88fd8376d96ab62aa860511150b4447fd610abee7fc65067bbaa71d4d", func := "bootjack/bootjacklaw22.WatchTicks", spec := "watchTicks", unfollowed := true, recurses := true, apart := false, narrowed := true }
def WatchTicksUptoSaid : Prop := watchTicksUptoRow.holds Try.pinned (OpenSpec.upto watchTicksSpec)

end Rows
end Go.Proofs.Ytkfbmfhfbfgojab
