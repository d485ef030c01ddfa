/-
  No cell of these rows narrows 'for every input' (looked for: loops, veiled, ifaces, maps, wideKeys, modest, calm, conditions, laid).
  DERIVED. THE GIVEN ROWS OF THIS SEAT. 4 by the template 'for every input the law returns true; each argument reads behind the call as it read before'; 0 by the template 'total and deterministic' (their statements: YtkfbmfhfbfgojaaTotals.lean).
  GIVEN WITH THE SEED: the statements are not yours to turn. If you find one false, say at which input.
  Laid BY PROGRAM, IN A SANDBOX (cutbox-rows.mjs): the forced cells as the released guide's own fill.sh prints them over the translation e31c64d74548b6b9… (all of the seat's roots in one cut). By AI agents, Wed Nov 11 2026. No macro, syntax, notation, axiom, sorry.
-/
import Derived.Test.YtkfbmfhfbfgojaaChecked
import GoSem.Claim
import GoSem.ClaimJoined
import GoSem.ClaimMapViews
import Derived.JoinedTies
import Derived.KernelRfl
namespace Go.Proofs.Ytkfbmfhfbfgojaa
/- THE CELL 'sum', in the pinned program and in every row, IS THE sha256 OF THE DUMP (.gsa) THAT YtkfbmfhfbfgojaaProg.lean LOADS. Nothing in Lean hashes anything: it is a label: what it is worth is what the hold of that sum in a sandbox is worth. -/
noncomputable def Try.pinned : Pinned := { name := "ytkfbmfhfbfgojaa", sum := "e31c64d74548b6b9680be419f1da2f1182ff7c29d3ab82f8eb3e89b2d35dd0af", checked := Try.checked }
namespace Rows
def none {H : Type} : Left H := { results := [], args := [] }

/-- 'bootjacklaw12.BootPlans': WHATEVER THE INPUT: true; the input reads as it did. -/
def bootPlansSpec : ChangeSpec := { name := "bootPlans", fn := fun _ => fun
  | [d] => { results := [.lit (.bool true)], args := [d] }
  | _ => none }
def bootPlansRow : OpenClaim := { program := "ytkfbmfhfbfgojaa", sum := "e31c64d74548b6b9680be419f1da2f1182ff7c29d3ab82f8eb3e89b2d35dd0af", func := "bootjack/bootjacklaw12.BootPlans", spec := "bootPlans", apart := false }
def BootPlansSaid : Prop := bootPlansRow.holds Try.pinned (OpenSpec.ofChange bootPlansSpec)

/-- ITS FALSE NEIGHBOUR: 'it returns false'. Refute it at one input. -/
def bootPlansWrong : ChangeSpec := { name := "bootPlans", fn := fun _ => fun
  | [d] => { results := [.lit (.bool false)], args := [d] }
  | _ => none }
def BootPlansWrongFalsely : Prop := bootPlansRow.holds Try.pinned (OpenSpec.ofChange bootPlansWrong)

/-- 'bootjacklaw12.BootSays': WHATEVER THE INPUT: true; the input reads as it did. -/
def bootSaysSpec : ChangeSpec := { name := "bootSays", fn := fun _ => fun
  | [d1, d2, d3] => { results := [.lit (.bool true)], args := [d1, d2, d3] }
  | _ => none }
def bootSaysRow : OpenClaim := { program := "ytkfbmfhfbfgojaa", sum := "e31c64d74548b6b9680be419f1da2f1182ff7c29d3ab82f8eb3e89b2d35dd0af", func := "bootjack/bootjacklaw12.BootSays", spec := "bootSays", apart := false }
def BootSaysSaid : Prop := bootSaysRow.holds Try.pinned (OpenSpec.ofChange bootSaysSpec)

/-- ITS FALSE NEIGHBOUR: 'it returns false'. Refute it at one input. -/
def bootSaysWrong : ChangeSpec := { name := "bootSays", fn := fun _ => fun
  | [d1, d2, d3] => { results := [.lit (.bool false)], args := [d1, d2, d3] }
  | _ => none }
def BootSaysWrongFalsely : Prop := bootSaysRow.holds Try.pinned (OpenSpec.ofChange bootSaysWrong)

/-- 'bootjacklaw12.BootFalls': WHATEVER THE INPUT: true; the input reads as it did. -/
def bootFallsSpec : ChangeSpec := { name := "bootFalls", fn := fun _ => fun
  | [d1, d2, d3] => { results := [.lit (.bool true)], args := [d1, d2, d3] }
  | _ => none }
def bootFallsRow : OpenClaim := { program := "ytkfbmfhfbfgojaa", sum := "e31c64d74548b6b9680be419f1da2f1182ff7c29d3ab82f8eb3e89b2d35dd0af", func := "bootjack/bootjacklaw12.BootFalls", spec := "bootFalls", apart := false }
def BootFallsSaid : Prop := bootFallsRow.holds Try.pinned (OpenSpec.ofChange bootFallsSpec)

/-- ITS FALSE NEIGHBOUR: 'it returns false'. Refute it at one input. -/
def bootFallsWrong : ChangeSpec := { name := "bootFalls", fn := fun _ => fun
  | [d1, d2, d3] => { results := [.lit (.bool false)], args := [d1, d2, d3] }
  | _ => none }
def BootFallsWrongFalsely : Prop := bootFallsRow.holds Try.pinned (OpenSpec.ofChange bootFallsWrong)

/-- 'bootjacklaw12.BootGood': WHATEVER THE INPUT: true; the input reads as it did. -/
def bootGoodSpec : ChangeSpec := { name := "bootGood", fn := fun _ => fun
  | [d1, d2] => { results := [.lit (.bool true)], args := [d1, d2] }
  | _ => none }
def bootGoodRow : OpenClaim := { program := "ytkfbmfhfbfgojaa", sum := "e31c64d74548b6b9680be419f1da2f1182ff7c29d3ab82f8eb3e89b2d35dd0af", func := "bootjack/bootjacklaw12.BootGood", spec := "bootGood", apart := false }
def BootGoodSaid : Prop := bootGoodRow.holds Try.pinned (OpenSpec.ofChange bootGoodSpec)

/-- ITS FALSE NEIGHBOUR: 'it returns false'. Refute it at one input. -/
def bootGoodWrong : ChangeSpec := { name := "bootGood", fn := fun _ => fun
  | [d1, d2] => { results := [.lit (.bool false)], args := [d1, d2] }
  | _ => none }
def BootGoodWrongFalsely : Prop := bootGoodRow.holds Try.pinned (OpenSpec.ofChange bootGoodWrong)

/- THE SECOND FORM. 'bulk': how many values and letters a reading holds, each counted each time it is reached (what is shared counts as often as it is met; a slice's spare places count too). A statement '..UptoSaid' is the law's where the arguments, and the package variables that the reading takes, are together of bulk at most 1048576: NARROWER than '..Said'. Prove '..Said' where nothing that the law and all that it calls make is longer than what came in: it says more and counts as full. Else prove '..UptoSaid'. A law counts once. -/
mutual
def uptoBulk {H : Type} : DataW H → Nat
  | .lit (.string bytes) => bytes.length + 1
  | .lit _ => 1
  | .nil => 1
  | .ptr d => uptoBulk d + 1
  | .slice elems spare => uptoBulkAll elems + uptoBulkAll spare + 1
  | .agg parts => uptoBulkAll parts + 1
  | .iface _ d => uptoBulk d + 1
  | .map entries => uptoBulkEntries entries + 1
  | .held _ => 1
def uptoBulkAll {H : Type} : List (DataW H) → Nat
  | [] => 0
  | d :: r => uptoBulk d + uptoBulkAll r
def uptoBulkEntries {H : Type} : List (Lit × DataW H) → Nat
  | [] => 0
  | x :: r => uptoBulkEntry x + uptoBulkEntries r
def uptoBulkEntry {H : Type} : Lit × DataW H → Nat
  | (.string bytes, d) => bytes.length + uptoBulk d + 1
  | (_, d) => uptoBulk d + 1
 end
def uptoSmall : (H : Type) → List (DataW H) → Bool := fun _ ds => decide (uptoBulkAll ds ≤ 1048576)
def OpenSpec.upto (s : _root_.Go.ChangeSpec) : _root_.Go.OpenSpec := { _root_.Go.OpenSpec.ofChange s with cond := some uptoSmall }

/-- 'bootjacklaw12.BootPlans', WHERE WHAT IT READS IS OF BULK AT MOST 1048576: true; the input reads as it did. -/
def bootPlansUptoRow : OpenClaim := { program := "ytkfbmfhfbfgojaa", sum := "e31c64d74548b6b9680be419f1da2f1182ff7c29d3ab82f8eb3e89b2d35dd0af", func := "bootjack/bootjacklaw12.BootPlans", spec := "bootPlans", apart := false, narrowed := true }
def BootPlansUptoSaid : Prop := bootPlansUptoRow.holds Try.pinned (OpenSpec.upto bootPlansSpec)

/-- 'bootjacklaw12.BootSays', WHERE WHAT IT READS IS OF BULK AT MOST 1048576: true; the input reads as it did. -/
def bootSaysUptoRow : OpenClaim := { program := "ytkfbmfhfbfgojaa", sum := "e31c64d74548b6b9680be419f1da2f1182ff7c29d3ab82f8eb3e89b2d35dd0af", func := "bootjack/bootjacklaw12.BootSays", spec := "bootSays", apart := false, narrowed := true }
def BootSaysUptoSaid : Prop := bootSaysUptoRow.holds Try.pinned (OpenSpec.upto bootSaysSpec)

/-- 'bootjacklaw12.BootFalls', WHERE WHAT IT READS IS OF BULK AT MOST 1048576: true; the input reads as it did. -/
def bootFallsUptoRow : OpenClaim := { program := "ytkfbmfhfbfgojaa", sum := "e31c64d74548b6b9680be419f1da2f1182ff7c29d3ab82f8eb3e89b2d35dd0af", func := "bootjack/bootjacklaw12.BootFalls", spec := "bootFalls", apart := false, narrowed := true }
def BootFallsUptoSaid : Prop := bootFallsUptoRow.holds Try.pinned (OpenSpec.upto bootFallsSpec)

/-- 'bootjacklaw12.BootGood', WHERE WHAT IT READS IS OF BULK AT MOST 1048576: true; the input reads as it did. -/
def bootGoodUptoRow : OpenClaim := { program := "ytkfbmfhfbfgojaa", sum := "e31c64d74548b6b9680be419f1da2f1182ff7c29d3ab82f8eb3e89b2d35dd0af", func := "bootjack/bootjacklaw12.BootGood", spec := "bootGood", apart := false, narrowed := true }
def BootGoodUptoSaid : Prop := bootGoodUptoRow.holds Try.pinned (OpenSpec.upto bootGoodSpec)

end Rows
end Go.Proofs.Ytkfbmfhfbfgojaa
