/- texts of the proof, one behind the other -/
import Derived.Test.YtdiimfnakedaoaaGreatDoorUD
set_option linter.unusedSimpArgs false
set_option linter.unusedSectionVars false
set_option linter.unusedVariables false
set_option maxRecDepth 100000
namespace J
open Go Go.Ab
noncomputable section
theorem alive_run : isT2 (run2 P tbX 1000000 (.call 4 [] (start P.globals.size))) = true := by kernel_rfl
theorem alive_good {W : World} (hT : Seal.Tabs2 W) (H : Heap) : @OrcGood (baseOf W) P 4 [] H (.bool true) := by
  letI := baseOf W
  letI : Orc := orcT tbX
  exact orc_closed Seal.good (okX hT) (run2_true alive_run) H
end
end J
