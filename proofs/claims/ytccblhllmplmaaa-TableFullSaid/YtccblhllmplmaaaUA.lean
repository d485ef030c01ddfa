/- texts of the proof, one behind the other -/
import Derived.Test.YtccblhllmplmaaaProg
import Derived.KernelRfl
import Derived.Test.YtccblhllmplmaaaAbC
set_option linter.unusedVariables false
set_option maxRecDepth 100000
namespace C
open Go Go.Ab
noncomputable abbrev P : Program := Go.Proofs.Try.prog
noncomputable section
abbrev n_law11_tableAlive : Nat := 10
abbrev n_crc_step : Nat := 106
instance (priority := 10) : Orc := orc0
noncomputable abbrev crc_step_P0 : Code := loopAt P n_crc_step 0
def crc_step_L0 (l : List Value) (H : Heap) (N : List Value → Heap → Prop) (Qx : Nat → List Value → Heap → Prop) (Qr : List Value → Heap → Prop) : Prop :=
opP ((binC P .lss 3 true).f (nth l 2) (.int .i64 8)) fun t4 =>
wIf t4 (
opP ((binC P .shr 166 true).f (nth l 0) (.int .u64 1)) fun t6 =>
opP ((binC P .and 166 true).f (nth l 0) (.int .u32 1)) fun t8 =>
opP (unA .neg t8) fun t9 =>
opP ((binC P .and 166 true).f (.int .u32 3988292384) t9) fun t10 =>
opP ((binC P .xor 166 false).f t6 t10) fun t11 =>
opP ((binC P .add 3 true).f (nth l 2) (.int .i64 1)) fun t12 =>
N [t11, (nth l 1), t12] H) (
Qx 0 [(nth l 0), (nth l 1)] H)
theorem crc_step_L0_eq (l : List Value) (H : Heap) (N : List Value → Heap → Prop) (Qx : Nat → List Value → Heap → Prop) (Qr : List Value → Heap → Prop) : vcC P true 14 crc_step_P0 (live crc_step_P0 0 5) 5 (envOf (bits 14 (live crc_step_P0 0 5)) l) H (loopQ 14 crc_step_P0 5 N Qx Qr) = crc_step_L0 l H N Qx Qr := by kernel_rfl
theorem crc_step_L0_ind (I : Nat → List Value → Heap → Prop) (Qx : Nat → List Value → Heap → Prop) (Qr : List Value → Heap → Prop) (hs : ∀ k l H, I k l H → crc_step_L0 l H (fun l H => ∃ k', k' < k ∧ I k' l H) Qx Qr) (k : Nat) (l : List Value) (H : Heap) (h : I k l H) : wLoop P true 14 crc_step_P0 5 l H Qx Qr :=
  loop_ind (by kernel_rfl) I (fun k l H h => (crc_step_L0_eq l H _ Qx Qr).mpr (hs k l H h)) k l H h
def crc_step (t0 : Value) (H : Heap) (K : Value → Heap → Prop) : Prop :=
wLoop P true 14 crc_step_P0 5 [t0, (.int .u32 0), (.int .i64 0)] H (fun id l H1 =>
cond (Nat.beq id 0) (
K (nth l 0) H1) (
False)) (fun l H1 =>
K (nth l 1) H1)
theorem crc_step_eq (t0 : Value) (H : Heap) (K : Value → Heap → Prop) : vcF P n_crc_step [t0] H K = crc_step t0 H K := by kernel_rfl
theorem crc_step_ok {t0 : Value} {H : Heap} {K : Value → Heap → Prop} (h : crc_step t0 H K) : wCall P n_crc_step [t0] H K := wCall_of_vcF rfl ((crc_step_eq t0 H K).mpr h)
end
end C
set_option linter.unusedVariables false
set_option maxRecDepth 100000
namespace C
open Go Go.Ab
variable {H : Heap} {K : Value → Heap → Prop}
noncomputable def crc1 (r : Nat) : Nat := Nat.xor (r / 2) (Nat.land 3988292384 ((4294967296 - Nat.land r 1) % 4294967296))
noncomputable def crcN (i r : Nat) : Nat := Nat.rec (motive := fun _ => Nat) r (fun _ x => crc1 x) i
theorem crc1_lt {r : Nat} (h : r < 4294967296) : crc1 r < 4294967296 :=
  Nat.xor_lt_two_pow (n := 32) (by omega) (Nat.and_lt_two_pow (n := 32) _ (Nat.mod_lt _ (by omega)))
theorem crcN_lt {r : Nat} (h : r < 4294967296) : ∀ i, crcN i r < 4294967296
  | 0 => h
  | i + 1 => crc1_lt (crcN_lt h i)
theorem crc_step_spec {r : Nat} (hr : r < 4294967296) (hk : K (uint .u32 (crcN 8 r)) H) : wCall P n_crc_step [uint .u32 r] H K := by
  apply crc_step_ok; unfold crc_step
  refine crc_step_L0_ind (fun k l' H' => ∃ y : Nat, y ≤ 8 ∧ k = 8 - y ∧ l' = [uint .u32 (crcN y r), .int .u32 0, int y] ∧ H' = H) _ _ ?_ 8 _ _ ⟨0, by omega, rfl, rfl, rfl⟩
  rintro k l' H' ⟨y, hy, rfl, rfl, rfl⟩
  unfold crc_step_L0
  try simp only [nth_zero, nth_succ]
  have hb := crcN_lt hr y
  repeat (first | refine oi ?_ | refine ow ?_ | refine wy ?_ | refine wn ?_ | refine wt ?_ | refine wf' ?_ | refine cy ?_ | refine cn ?_)
  refine wIf_dec (fun h => ?_) (fun h => ?_)
  · have h1 : crcN y r &&& 1 < 4294967296 := Nat.and_lt_two_pow (n := 32) _ (by omega)
    refine opP_i (bin_shrU (n := 1) rfl (by decide)) ?_
    refine opP_i (bin_andU (b := 1) rfl hb (by decide)) ?_
    refine opP_i (un_negU rfl h1) ?_
    refine opP_i (bin_andU (a := 3988292384) rfl (by decide) (Nat.mod_lt _ (by decide))) ?_
    refine opP_i (bin_xorU rfl (show crcN y r / 2 < 4294967296 by omega) (Nat.and_lt_two_pow (n := 32) _ (Nat.mod_lt _ (by decide)))) ?_
    repeat (first | refine oi ?_ | refine ow ?_ | refine wy ?_ | refine wn ?_ | refine wt ?_ | refine wf' ?_ | refine cy ?_ | refine cn ?_)
    exact ⟨_, by omega, y + 1, by omega, rfl, rfl, trivial⟩
  · have e : y = 8 := by omega
    subst e
    repeat (first | refine oi ?_ | refine ow ?_ | refine wy ?_ | refine wn ?_ | refine wt ?_ | refine wf' ?_ | refine cy ?_ | refine cn ?_)
    exact hk
noncomputable def crcF (args : List Value) : Option Value := match args with
  | [v] => match v with
    | .int k n => match k with
      | .u32 => match n with
        | .ofNat r => cond (Nat.blt r 4294967296) (some (.int .u32 (Int.ofNat (crcN 8 r)))) none
        | _ => none
      | _ => none
    | _ => none
  | _ => none
theorem crcF_some {args : List Value} {v : Value} (h : crcF args = some v) : ∃ r : Nat, r < 4294967296 ∧ args = [uint .u32 r] ∧ v = uint .u32 (crcN 8 r) := by
  unfold crcF at h
  split at h
  case h_2 => cases h
  case h_1 x =>
  split at h
  case h_2 => cases h
  case h_1 k n =>
  split at h
  case h_2 => cases h
  case h_1 =>
  split at h
  case h_2 => cases h
  case h_1 r =>
  cases hb : Nat.blt r 4294967296 with
  | false => rw [hb] at h; cases h
  | true =>
    rw [hb] at h
    cases h
    rw [blt_eq] at hb
    exact ⟨r, of_decide_eq_true hb, rfl, rfl⟩
theorem crcF_ok (hP : goodB P = true) (args : List Value) (v : Value) (h : crcF args = some v) (H : Heap) : OrcGood P n_crc_step args H v := by
  obtain ⟨r, hr, rfl, rfl⟩ := crcF_some h
  obtain ⟨n, ex, v', H', hrun, hv⟩ := crc_step_spec (H := Ab.start P.globals.size) (K := fun v _ => v = uint .u32 (crcN 8 r)) hr rfl
  subst hv
  exact @orc_flat P orc0 hP orc0_ok _ _ _ _ _ _ hrun rfl rfl H
end C
set_option linter.unusedVariables false
set_option maxRecDepth 100000
namespace C
open Go Go.Ab
theorem good : goodB P = true := by kernel_rfl
def blankV : Value := .agg #[.int .u8 255, .int .u8 255, .int .u8 255, .int .u8 255, .int .u8 255, .int .u8 255, .int .u8 255, .int .u8 255, .int .u8 255, .int .u8 255, .int .u8 255, .int .u8 255, .int .u8 255, .int .u8 255, .int .u8 255, .int .u8 255, .int .u8 255, .int .u8 255, .int .u8 255, .int .u8 255, .int .u8 255, .int .u8 255, .int .u8 255, .int .u8 255, .int .u8 255, .int .u8 255, .int .u8 255, .int .u8 255, .int .u8 255, .int .u8 255, .int .u8 255, .int .u8 255, .int .u8 255, .int .u8 255, .int .u8 255, .int .u8 255, .int .u8 255, .int .u8 255, .int .u8 255, .int .u8 255, .int .u8 255, .int .u8 255, .int .u8 255, .int .u8 255, .int .u8 255, .int .u8 255, .int .u8 255, .int .u8 255, .int .u8 255, .int .u8 255, .int .u8 255, .int .u8 255, .int .u8 255, .int .u8 255, .int .u8 255, .int .u8 255, .int .u8 255, .int .u8 255, .int .u8 255, .int .u8 255, .int .u8 255, .int .u8 255, .int .u8 255, .int .u8 255]
set_option maxRecDepth 100000 in
theorem run1 : outV (@runO (orcL []) P 1000000 (.call 59 [] (Ab.start P.globals.size))) = some blankV := by kernel_rfl
theorem tab1 : AllGood P [(59, blankV)] := AllGood.cons (@orc_val P (orcL []) good (orcL_ok AllGood.nil) _ _ _ run1 rfl) AllGood.nil
theorem orc2 : @OrcOk (orcF [(59, blankV)] n_crc_step crcF) P := orcF_ok tab1 (crcF_ok good)
set_option maxRecDepth 100000 in
theorem run2 : isTrueB (@runO (orcF [(59, blankV)] n_crc_step crcF) P 1000000 (.call 10 [] (Ab.start P.globals.size))) = true := by kernel_rfl
theorem alive (H : Heap) : OrcGood P 10 [] H (.bool true) := @orc_closed P (orcF [(59, blankV)] n_crc_step crcF) good orc2 _ _ run2 H
end C
