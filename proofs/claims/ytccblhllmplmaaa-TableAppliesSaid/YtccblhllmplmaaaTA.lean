import Derived.Test.YtccblhllmplmaaaC2
set_option linter.unusedVariables false
set_option maxRecDepth 100000
namespace C
open Go Go.Ab
theorem good : goodB P = true := by kernel_rfl
def blankV : Value := .agg #[.int .u8 255, .int .u8 255, .int .u8 255, .int .u8 255, .int .u8 255, .int .u8 255, .int .u8 255, .int .u8 255, .int .u8 255, .int .u8 255, .int .u8 255, .int .u8 255, .int .u8 255, .int .u8 255, .int .u8 255, .int .u8 255, .int .u8 255, .int .u8 255, .int .u8 255, .int .u8 255, .int .u8 255, .int .u8 255, .int .u8 255, .int .u8 255, .int .u8 255, .int .u8 255, .int .u8 255, .int .u8 255, .int .u8 255, .int .u8 255, .int .u8 255, .int .u8 255, .int .u8 255, .int .u8 255, .int .u8 255, .int .u8 255, .int .u8 255, .int .u8 255, .int .u8 255, .int .u8 255, .int .u8 255, .int .u8 255, .int .u8 255, .int .u8 255, .int .u8 255, .int .u8 255, .int .u8 255, .int .u8 255, .int .u8 255, .int .u8 255, .int .u8 255, .int .u8 255, .int .u8 255, .int .u8 255, .int .u8 255, .int .u8 255, .int .u8 255, .int .u8 255, .int .u8 255, .int .u8 255, .int .u8 255, .int .u8 255, .int .u8 255, .int .u8 255]
set_option maxRecDepth 100000 in
theorem run1 : outV (@runO (orcL []) P 1000000 (.call 59 [] (Ab.start P.globals.size))) = some blankV := by kernel_rfl
theorem tab1 : AllGood P [(59, blankV)] := AllGood.cons (@orc_val P (orcL []) good (orcL_ok AllGood.nil) _ _ _ run1 rfl) AllGood.nil
theorem orc2 : @OrcOk (orcF [(59, blankV)] n_crc_step crcF) P := orcF_ok tab1 (crcF_ok good)
set_option maxRecDepth 100000 in
theorem run2 : isTrueB (@runO (orcF [(59, blankV)] n_crc_step crcF) P 1000000 (.call 10 [] (Ab.start P.globals.size))) = true := by kernel_rfl
theorem alive (H : Heap) : OrcGood P 10 [] H (.bool true) := @orc_closed P (orcF [(59, blankV)] n_crc_step crcF) good orc2 _ _ run2 H
end C
