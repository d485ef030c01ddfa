/- texts of the proof, one behind the other -/
import Derived.Test.YtdiimfnakedaoaaGreatDoorUE
set_option linter.unusedSimpArgs false
set_option linter.unusedSectionVars false
set_option linter.unusedVariables false
set_option maxRecDepth 100000
namespace J
open Go Go.Ab
noncomputable section
theorem okY {W : World} (hT : Seal.Tabs2 W) : @OrcOk (baseOf W) (orcT tbY) P := orcT_ok (by
  intro p hp args H v h
  rcases List.mem_cons.1 hp with rfl | hp
  · have h : trueT args = some v := h
    unfold trueT at h
    split at h
    · cases h; exact alive_good hT H
    · cases h
  exact tabL_ok hT p hp args H v h) (bodL_ok tbY rfl rfl)
theorem law_run : isT2 (run2 P tbY 1000000 (.call 3 [] (start P.globals.size))) = true := by kernel_rfl
theorem law_true {W : World} (hT : Seal.Tabs2 W) : Calls P 3 #[] W fun e w' => e = .returned (.bool true) ∧ RowKit.Below W.heap.size W w' := by
  letI : Orc := orcT tbY
  exact closedO_true Seal.good W (okY hT) (run2_true law_run)
end
end J
