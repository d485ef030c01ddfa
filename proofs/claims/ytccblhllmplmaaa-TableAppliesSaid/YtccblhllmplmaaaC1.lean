import Derived.Test.YtccblhllmplmaaaAbU
import Derived.Test.YtccblhllmplmaaaProg
import Derived.KernelRfl
set_option linter.unusedVariables false
set_option maxRecDepth 100000
namespace C
open Go Go.Ab
noncomputable abbrev P : Program := Go.Proofs.Try.prog
noncomputable section
abbrev n_law11_tableAlive : Nat := 10
abbrev n_crc_step : Nat := 106
instance (priority := 10) : Orc := orc0
/-! bootjack/crc.step -/
noncomputable abbrev crc_step_P0 : Code := loopAt P n_crc_step 0
/-- loop 0: goes on from the slots [0, 2, 3]; leaves [0, 2] -/
def crc_step_L0 (l : List Value) (H : Heap) (N : List Value → Heap → Prop) (Qx : Nat → List Value → Heap → Prop) (Qr : List Value → Heap → Prop) : Prop :=
opP ((binC P .lss 3 true).f (nth l 2) (.int .i64 8)) fun t4 =>
wIf t4 (
opP ((binC P .shr 166 true).f (nth l 0) (.int .u64 1)) fun t6 =>
opP ((binC P .and 166 true).f (nth l 0) (.int .u32 1)) fun t8 =>
opP (unA .neg t8) fun t9 =>
opP ((binC P .and 166 true).f (.int .u32 3988292384) t9) fun t10 =>
opP ((binC P .xor 166 false).f t6 t10) fun t11 =>
opP ((binC P .add 3 true).f (nth l 2) (.int .i64 1)) fun t12 =>
N [t11, (nth l 1), t12] H) (
Qx 0 [(nth l 0), (nth l 1)] H)
theorem crc_step_L0_eq (l : List Value) (H : Heap) (N : List Value → Heap → Prop) (Qx : Nat → List Value → Heap → Prop) (Qr : List Value → Heap → Prop) : vcC P true 14 crc_step_P0 (live crc_step_P0 0 5) 5 (envOf (bits 14 (live crc_step_P0 0 5)) l) H (loopQ 14 crc_step_P0 5 N Qx Qr) = crc_step_L0 l H N Qx Qr := by kernel_rfl
theorem crc_step_L0_ind (I : Nat → List Value → Heap → Prop) (Qx : Nat → List Value → Heap → Prop) (Qr : List Value → Heap → Prop) (hs : ∀ k l H, I k l H → crc_step_L0 l H (fun l H => ∃ k', k' < k ∧ I k' l H) Qx Qr) (k : Nat) (l : List Value) (H : Heap) (h : I k l H) : wLoop P true 14 crc_step_P0 5 l H Qx Qr :=
  loop_ind (by kernel_rfl) I (fun k l H h => (crc_step_L0_eq l H _ Qx Qr).mpr (hs k l H h)) k l H h
def crc_step (t0 : Value) (H : Heap) (K : Value → Heap → Prop) : Prop :=
wLoop P true 14 crc_step_P0 5 [t0, (.int .u32 0), (.int .i64 0)] H (fun id l H1 =>
cond (Nat.beq id 0) (
K (nth l 0) H1) (
False)) (fun l H1 =>
K (nth l 1) H1)
theorem crc_step_eq (t0 : Value) (H : Heap) (K : Value → Heap → Prop) : vcF P n_crc_step [t0] H K = crc_step t0 H K := by kernel_rfl
theorem crc_step_ok {t0 : Value} {H : Heap} {K : Value → Heap → Prop} (h : crc_step t0 H K) : wCall P n_crc_step [t0] H K := wCall_of_vcF rfl ((crc_step_eq t0 H K).mpr h)

end
end C
