/- texts of the proof, one behind the other -/
import Derived.Test.YtgcklljdiidgmaaProg
import Derived.KernelRfl
import Derived.Test.YtgcklljdiidgmaaAbC
set_option linter.unusedVariables false
set_option maxRecDepth 100000
namespace JA
open Go Go.Ab
noncomputable abbrev P : Program := Go.Proofs.Try.prog
theorem good : goodB P = true := by kernel_rfl
def blankV : Value := .agg #[.int .u8 255, .int .u8 255, .int .u8 255, .int .u8 255, .int .u8 255, .int .u8 255, .int .u8 255, .int .u8 255, .int .u8 255, .int .u8 255, .int .u8 255, .int .u8 255, .int .u8 255, .int .u8 255, .int .u8 255, .int .u8 255, .int .u8 255, .int .u8 255, .int .u8 255, .int .u8 255, .int .u8 255, .int .u8 255, .int .u8 255, .int .u8 255, .int .u8 255, .int .u8 255, .int .u8 255, .int .u8 255, .int .u8 255, .int .u8 255, .int .u8 255, .int .u8 255, .int .u8 255, .int .u8 255, .int .u8 255, .int .u8 255, .int .u8 255, .int .u8 255, .int .u8 255, .int .u8 255, .int .u8 255, .int .u8 255, .int .u8 255, .int .u8 255, .int .u8 255, .int .u8 255, .int .u8 255, .int .u8 255, .int .u8 255, .int .u8 255, .int .u8 255, .int .u8 255, .int .u8 255, .int .u8 255, .int .u8 255, .int .u8 255, .int .u8 255, .int .u8 255, .int .u8 255, .int .u8 255, .int .u8 255, .int .u8 255, .int .u8 255, .int .u8 255]
set_option maxRecDepth 100000 in
theorem run1 : outV (@runO (orcL []) P 1000000 (.call 32 [] (Ab.start P.globals.size))) = some blankV := by kernel_rfl
theorem tab1 : AllGood P [(32, blankV)] := AllGood.cons (@orc_val P (orcL []) good (orcL_ok AllGood.nil) _ _ _ run1 rfl) AllGood.nil
set_option maxRecDepth 100000 in
theorem run2 : isTrueB (@runO (orcL [(32, blankV)]) P 1000000 (.call 6 [] (Ab.start P.globals.size))) = true := by kernel_rfl
theorem alive (H : Heap) : OrcGood P 6 [] H (.bool true) := @orc_closed P (orcL [(32, blankV)]) good (orcL_ok tab1) _ _ run2 H
end JA
