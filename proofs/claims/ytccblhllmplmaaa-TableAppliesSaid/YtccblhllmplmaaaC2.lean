import Derived.Test.YtccblhllmplmaaaC1
set_option linter.unusedVariables false
set_option maxRecDepth 100000
namespace C
open Go Go.Ab
variable {H : Heap} {K : Value → Heap → Prop}
noncomputable def crc1 (r : Nat) : Nat := Nat.xor (r / 2) (Nat.land 3988292384 ((4294967296 - Nat.land r 1) % 4294967296))
noncomputable def crcN (i r : Nat) : Nat := Nat.rec (motive := fun _ => Nat) r (fun _ x => crc1 x) i
theorem crc1_lt {r : Nat} (h : r < 4294967296) : crc1 r < 4294967296 :=
  Nat.xor_lt_two_pow (n := 32) (by omega) (Nat.and_lt_two_pow (n := 32) _ (Nat.mod_lt _ (by omega)))
theorem crcN_lt {r : Nat} (h : r < 4294967296) : ∀ i, crcN i r < 4294967296
  | 0 => h
  | i + 1 => crc1_lt (crcN_lt h i)
theorem crc_step_spec {r : Nat} (hr : r < 4294967296) (hk : K (uint .u32 (crcN 8 r)) H) : wCall P n_crc_step [uint .u32 r] H K := by
  apply crc_step_ok; unfold crc_step
  refine crc_step_L0_ind (fun k l' H' => ∃ y : Nat, y ≤ 8 ∧ k = 8 - y ∧ l' = [uint .u32 (crcN y r), .int .u32 0, int y] ∧ H' = H) _ _ ?_ 8 _ _ ⟨0, by omega, rfl, rfl, rfl⟩
  rintro k l' H' ⟨y, hy, rfl, rfl, rfl⟩
  unfold crc_step_L0
  try simp only [nth_zero, nth_succ]
  have hb := crcN_lt hr y
  repeat (first | refine opP_i (bin_addi (by omega) (by omega)) ?_ | refine opP_i (bin_subi (by omega) (by omega)) ?_ | refine opP_i nilCheck_ptr ?_ | refine opP_i offPtr_ptr ?_ | refine opP_i bin_eql ?_ | refine opP_i bin_neq ?_ | refine opP_i bin_lss ?_ | refine opP_i bin_gtr ?_ | refine opP_i bin_leq ?_ | refine opP_i bin_geq ?_ | refine opP_i un_not ?_ | refine opP_i pick_true ?_ | refine opP_i pick_false ?_ | refine opP_i (pick_yes (by first | assumption | omega)) ?_ | refine opP_i (pick_no (by first | assumption | omega)) ?_ | refine opP_i (idxSl_ok (by omega) (by omega)) ?_ | refine opP_i (idxPtr_ok (by omega) (by omega)) ?_ | refine opW_i lenSl_sl ?_ | refine opW_i min_w ?_ | refine opW_i max_w ?_ | refine load_at hO 0 rfl rfl ?_ | refine load_at hO 1 rfl rfl ?_ | refine load_at hO 2 rfl rfl ?_ | refine load_at hO 3 rfl rfl ?_ | refine load_at hO 4 rfl rfl ?_ | refine load_at hO 5 rfl rfl ?_ | refine load_at hO 6 rfl rfl ?_ | refine load_at hO 7 rfl rfl ?_ | refine load_at hO 8 rfl rfl ?_ | refine load_at hO 9 rfl rfl ?_ | refine wIf_yes (by first | assumption | omega) ?_ | refine wIf_no (by first | assumption | omega) ?_ | refine wIf_t rfl ?_ | refine wIf_f rfl ?_ | refine cond_yes rfl ?_ | refine cond_no rfl ?_)
  refine wIf_dec (fun h => ?_) (fun h => ?_)
  · have h1 : crcN y r &&& 1 < 4294967296 := Nat.and_lt_two_pow (n := 32) _ (by omega)
    refine opP_i (bin_shrU (n := 1) rfl (by decide)) ?_
    refine opP_i (bin_andU (b := 1) rfl hb (by decide)) ?_
    refine opP_i (un_negU rfl h1) ?_
    refine opP_i (bin_andU (a := 3988292384) rfl (by decide) (Nat.mod_lt _ (by decide))) ?_
    refine opP_i (bin_xorU rfl (show crcN y r / 2 < 4294967296 by omega) (Nat.and_lt_two_pow (n := 32) _ (Nat.mod_lt _ (by decide)))) ?_
    repeat (first | refine opP_i (bin_addi (by omega) (by omega)) ?_ | refine opP_i (bin_subi (by omega) (by omega)) ?_ | refine opP_i nilCheck_ptr ?_ | refine opP_i offPtr_ptr ?_ | refine opP_i bin_eql ?_ | refine opP_i bin_neq ?_ | refine opP_i bin_lss ?_ | refine opP_i bin_gtr ?_ | refine opP_i bin_leq ?_ | refine opP_i bin_geq ?_ | refine opP_i un_not ?_ | refine opP_i pick_true ?_ | refine opP_i pick_false ?_ | refine opP_i (pick_yes (by first | assumption | omega)) ?_ | refine opP_i (pick_no (by first | assumption | omega)) ?_ | refine opP_i (idxSl_ok (by omega) (by omega)) ?_ | refine opP_i (idxPtr_ok (by omega) (by omega)) ?_ | refine opW_i lenSl_sl ?_ | refine opW_i min_w ?_ | refine opW_i max_w ?_ | refine load_at hO 0 rfl rfl ?_ | refine load_at hO 1 rfl rfl ?_ | refine load_at hO 2 rfl rfl ?_ | refine load_at hO 3 rfl rfl ?_ | refine load_at hO 4 rfl rfl ?_ | refine load_at hO 5 rfl rfl ?_ | refine load_at hO 6 rfl rfl ?_ | refine load_at hO 7 rfl rfl ?_ | refine load_at hO 8 rfl rfl ?_ | refine load_at hO 9 rfl rfl ?_ | refine wIf_yes (by first | assumption | omega) ?_ | refine wIf_no (by first | assumption | omega) ?_ | refine wIf_t rfl ?_ | refine wIf_f rfl ?_ | refine cond_yes rfl ?_ | refine cond_no rfl ?_)
    exact ⟨_, by omega, y + 1, by omega, rfl, rfl, trivial⟩
  · have e : y = 8 := by omega
    subst e
    repeat (first | refine opP_i (bin_addi (by omega) (by omega)) ?_ | refine opP_i (bin_subi (by omega) (by omega)) ?_ | refine opP_i nilCheck_ptr ?_ | refine opP_i offPtr_ptr ?_ | refine opP_i bin_eql ?_ | refine opP_i bin_neq ?_ | refine opP_i bin_lss ?_ | refine opP_i bin_gtr ?_ | refine opP_i bin_leq ?_ | refine opP_i bin_geq ?_ | refine opP_i un_not ?_ | refine opP_i pick_true ?_ | refine opP_i pick_false ?_ | refine opP_i (pick_yes (by first | assumption | omega)) ?_ | refine opP_i (pick_no (by first | assumption | omega)) ?_ | refine opP_i (idxSl_ok (by omega) (by omega)) ?_ | refine opP_i (idxPtr_ok (by omega) (by omega)) ?_ | refine opW_i lenSl_sl ?_ | refine opW_i min_w ?_ | refine opW_i max_w ?_ | refine load_at hO 0 rfl rfl ?_ | refine load_at hO 1 rfl rfl ?_ | refine load_at hO 2 rfl rfl ?_ | refine load_at hO 3 rfl rfl ?_ | refine load_at hO 4 rfl rfl ?_ | refine load_at hO 5 rfl rfl ?_ | refine load_at hO 6 rfl rfl ?_ | refine load_at hO 7 rfl rfl ?_ | refine load_at hO 8 rfl rfl ?_ | refine load_at hO 9 rfl rfl ?_ | refine wIf_yes (by first | assumption | omega) ?_ | refine wIf_no (by first | assumption | omega) ?_ | refine wIf_t rfl ?_ | refine wIf_f rfl ?_ | refine cond_yes rfl ?_ | refine cond_no rfl ?_)
    exact hk
noncomputable def crcF (args : List Value) : Option Value := match args with
  | [v] => match v with
    | .int k n => match k with
      | .u32 => match n with
        | .ofNat r => cond (Nat.blt r 4294967296) (some (.int .u32 (Int.ofNat (crcN 8 r)))) none
        | _ => none
      | _ => none
    | _ => none
  | _ => none
theorem crcF_some {args : List Value} {v : Value} (h : crcF args = some v) : ∃ r : Nat, r < 4294967296 ∧ args = [uint .u32 r] ∧ v = uint .u32 (crcN 8 r) := by
  unfold crcF at h
  split at h
  case h_2 => cases h
  case h_1 x =>
  split at h
  case h_2 => cases h
  case h_1 k n =>
  split at h
  case h_2 => cases h
  case h_1 =>
  split at h
  case h_2 => cases h
  case h_1 r =>
  cases hb : Nat.blt r 4294967296 with
  | false => rw [hb] at h; cases h
  | true =>
    rw [hb] at h
    cases h
    rw [blt_eq] at hb
    exact ⟨r, of_decide_eq_true hb, rfl, rfl⟩
theorem crcF_ok (hP : goodB P = true) (args : List Value) (v : Value) (h : crcF args = some v) (H : Heap) : OrcGood P n_crc_step args H v := by
  obtain ⟨r, hr, rfl, rfl⟩ := crcF_some h
  obtain ⟨n, ex, v', H', hrun, hv⟩ := crc_step_spec (H := Ab.start P.globals.size) (K := fun v _ => v = uint .u32 (crcN 8 r)) hr rfl
  subst hv
  exact @orc_flat P orc0 hP orc0_ok _ _ _ _ _ _ hrun rfl rfl H
end C
