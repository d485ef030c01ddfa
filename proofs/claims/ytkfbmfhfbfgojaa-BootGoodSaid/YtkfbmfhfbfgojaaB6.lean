import Derived.Test.YtkfbmfhfbfgojaaB5
set_option linter.unusedVariables false
set_option maxRecDepth 100000
namespace B
open Go Go.Ab
variable {H : Heap} {Γ : List (Nat × Blk)} {K : Value → Heap → Prop}
section
variable {t : Tb}
theorem ext0 {a b : Value} : extA 0 (.tuple [a, b].toArray) = some a := rfl
theorem ext1 {a b : Value} : extA 1 (.tuple [a, b].toArray) = some b := rfl
/-- looked at, and kept in a block of its own -/
theorem boot_Pick_spec (hO : St H Γ) (hk : ∀ H', St H' Γ → K (int (tPick t)) H') : wCall P n_boot_Pick [agg (tbC t)] H K := by
  apply boot_Pick_ok; unfold boot_Pick
  refine new_at hO ?_
  intro p H hO
  refine loadAll_at hO (Γ.length + 0) (at_r rfl) rfl (by omega) ?_
  refine boot_look_spec hO ?_
  intro H hO
  refine opP_i ext0 ?_
  refine opP_i ext1 ?_
  rw [zc60]
  refine new_at hO ?_
  intro q H hO
  rw [List.append_assoc] at hO
  refine storeAll_at hO (Γ.length + 1) (at_r rfl) rfl rfl rfl ?_
  intro H hO
  have hO := hO.set_r
  by_cases h : TRight t
  · rw [decide_eq_true h]
    repeat (first | refine opP_i (bin_addi (by omega) (by omega)) ?_ | refine opP_i (bin_subi (by omega) (by omega)) ?_ | refine opP_i nilCheck_ptr ?_ | refine opP_i offPtr_ptr ?_ | refine opP_i bin_eql ?_ | refine opP_i bin_neq ?_ | refine opP_i bin_lss ?_ | refine opP_i bin_gtr ?_ | refine opP_i bin_leq ?_ | refine opP_i bin_geq ?_ | refine opP_i un_not ?_ | refine opP_i pick_true ?_ | refine opP_i pick_false ?_ | refine opP_i (pick_yes (by first | assumption | omega)) ?_ | refine opP_i (pick_no (by first | assumption | omega)) ?_ | refine opP_i (idxSl_ok (by omega) (by omega)) ?_ | refine opP_i (idxPtr_ok (by omega) (by omega)) ?_ | refine opW_i lenSl_sl ?_ | refine opW_i min_w ?_ | refine opW_i max_w ?_ | refine load_at hO 0 rfl rfl ?_ | refine load_at hO 1 rfl rfl ?_ | refine load_at hO 2 rfl rfl ?_ | refine load_at hO 3 rfl rfl ?_ | refine load_at hO 4 rfl rfl ?_ | refine load_at hO 5 rfl rfl ?_ | refine load_at hO 6 rfl rfl ?_ | refine load_at hO 7 rfl rfl ?_ | refine load_at hO 8 rfl rfl ?_ | refine load_at hO 9 rfl rfl ?_ | refine wIf_yes (by first | assumption | omega) ?_ | refine wIf_no (by first | assumption | omega) ?_ | refine wIf_t rfl ?_ | refine wIf_f rfl ?_ | refine cond_yes rfl ?_ | refine cond_no rfl ?_ | refine load_at hO (Γ.length + 0) (at_r rfl) rfl ?_ | refine load_at hO (Γ.length + 1) (at_r rfl) rfl ?_ | refine load_at hO (Γ.length + 2) (at_r rfl) rfl ?_ | refine load_at hO (Γ.length + 3) (at_r rfl) rfl ?_ | refine load_at hO (Γ.length + 4) (at_r rfl) rfl ?_ | refine load_at hO (Γ.length + 5) (at_r rfl) rfl ?_)
    refine loadAll_at hO (Γ.length + 1) (at_r rfl) rfl (by omega) ?_
    refine boot_pick_spec hO h.2.2.1 ?_
    intro H hO
    rw [show tPick t = vPick t from if_pos h] at hk
    exact hk _ hO.left
  · rw [decide_eq_false h]
    repeat (first | refine opP_i (bin_addi (by omega) (by omega)) ?_ | refine opP_i (bin_subi (by omega) (by omega)) ?_ | refine opP_i nilCheck_ptr ?_ | refine opP_i offPtr_ptr ?_ | refine opP_i bin_eql ?_ | refine opP_i bin_neq ?_ | refine opP_i bin_lss ?_ | refine opP_i bin_gtr ?_ | refine opP_i bin_leq ?_ | refine opP_i bin_geq ?_ | refine opP_i un_not ?_ | refine opP_i pick_true ?_ | refine opP_i pick_false ?_ | refine opP_i (pick_yes (by first | assumption | omega)) ?_ | refine opP_i (pick_no (by first | assumption | omega)) ?_ | refine opP_i (idxSl_ok (by omega) (by omega)) ?_ | refine opP_i (idxPtr_ok (by omega) (by omega)) ?_ | refine opW_i lenSl_sl ?_ | refine opW_i min_w ?_ | refine opW_i max_w ?_ | refine load_at hO 0 rfl rfl ?_ | refine load_at hO 1 rfl rfl ?_ | refine load_at hO 2 rfl rfl ?_ | refine load_at hO 3 rfl rfl ?_ | refine load_at hO 4 rfl rfl ?_ | refine load_at hO 5 rfl rfl ?_ | refine load_at hO 6 rfl rfl ?_ | refine load_at hO 7 rfl rfl ?_ | refine load_at hO 8 rfl rfl ?_ | refine load_at hO 9 rfl rfl ?_ | refine wIf_yes (by first | assumption | omega) ?_ | refine wIf_no (by first | assumption | omega) ?_ | refine wIf_t rfl ?_ | refine wIf_f rfl ?_ | refine cond_yes rfl ?_ | refine cond_no rfl ?_ | refine load_at hO (Γ.length + 0) (at_r rfl) rfl ?_ | refine load_at hO (Γ.length + 1) (at_r rfl) rfl ?_ | refine load_at hO (Γ.length + 2) (at_r rfl) rfl ?_ | refine load_at hO (Γ.length + 3) (at_r rfl) rfl ?_ | refine load_at hO (Γ.length + 4) (at_r rfl) rfl ?_ | refine load_at hO (Γ.length + 5) (at_r rfl) rfl ?_)
    rw [show tPick t = -1 from if_neg h] at hk
    exact hk _ hO.left
theorem ref12_Pick_spec (hO : St H Γ) (hk : ∀ H', St H' Γ → K (int (tPick t)) H') : wCall P n_ref12_Pick [agg (tbC t)] H K := by
  apply ref12_Pick_ok; unfold ref12_Pick
  refine new_at hO ?_
  intro p H hO
  refine loadAll_at hO (Γ.length + 0) (at_r rfl) rfl (by omega) ?_
  refine ref11_Right_spec hO ?_
  intro H hO
  by_cases h : TRight t
  · rw [decide_eq_true h]
    rw [show tPick t = vPick t from if_pos h] at hk
    have ha := h.2.2.1
    have ha' := ha
    unfold Ix at ha'
    repeat (first | refine opP_i (bin_addi (by omega) (by omega)) ?_ | refine opP_i (bin_subi (by omega) (by omega)) ?_ | refine opP_i nilCheck_ptr ?_ | refine opP_i offPtr_ptr ?_ | refine opP_i bin_eql ?_ | refine opP_i bin_neq ?_ | refine opP_i bin_lss ?_ | refine opP_i bin_gtr ?_ | refine opP_i bin_leq ?_ | refine opP_i bin_geq ?_ | refine opP_i un_not ?_ | refine opP_i pick_true ?_ | refine opP_i pick_false ?_ | refine opP_i (pick_yes (by first | assumption | omega)) ?_ | refine opP_i (pick_no (by first | assumption | omega)) ?_ | refine opP_i (idxSl_ok (by omega) (by omega)) ?_ | refine opP_i (idxPtr_ok (by omega) (by omega)) ?_ | refine opW_i lenSl_sl ?_ | refine opW_i min_w ?_ | refine opW_i max_w ?_ | refine load_at hO 0 rfl rfl ?_ | refine load_at hO 1 rfl rfl ?_ | refine load_at hO 2 rfl rfl ?_ | refine load_at hO 3 rfl rfl ?_ | refine load_at hO 4 rfl rfl ?_ | refine load_at hO 5 rfl rfl ?_ | refine load_at hO 6 rfl rfl ?_ | refine load_at hO 7 rfl rfl ?_ | refine load_at hO 8 rfl rfl ?_ | refine load_at hO 9 rfl rfl ?_ | refine wIf_yes (by first | assumption | omega) ?_ | refine wIf_no (by first | assumption | omega) ?_ | refine wIf_t rfl ?_ | refine wIf_f rfl ?_ | refine cond_yes rfl ?_ | refine cond_no rfl ?_ | refine load_at hO (Γ.length + 0) (at_r rfl) rfl ?_ | refine load_at hO (Γ.length + 1) (at_r rfl) rfl ?_ | refine load_at hO (Γ.length + 2) (at_r rfl) rfl ?_ | refine load_at hO (Γ.length + 3) (at_r rfl) rfl ?_ | refine load_at hO (Γ.length + 4) (at_r rfl) rfl ?_ | refine load_at hO (Γ.length + 5) (at_r rfl) rfl ?_)
    refine load_slot (t := t) (x := t.act) hO (Γ.length + 0) (at_r rfl) ha (by omega) ?_
    refine ref10_Bootable_spec hO ?_
    intro H hO
    refine wIf_dec (fun h1 => ?_) (fun h1 => ?_)
    · rw [show vPick t = t.act from if_pos h1] at hk
      repeat (first | refine opP_i (bin_addi (by omega) (by omega)) ?_ | refine opP_i (bin_subi (by omega) (by omega)) ?_ | refine opP_i nilCheck_ptr ?_ | refine opP_i offPtr_ptr ?_ | refine opP_i bin_eql ?_ | refine opP_i bin_neq ?_ | refine opP_i bin_lss ?_ | refine opP_i bin_gtr ?_ | refine opP_i bin_leq ?_ | refine opP_i bin_geq ?_ | refine opP_i un_not ?_ | refine opP_i pick_true ?_ | refine opP_i pick_false ?_ | refine opP_i (pick_yes (by first | assumption | omega)) ?_ | refine opP_i (pick_no (by first | assumption | omega)) ?_ | refine opP_i (idxSl_ok (by omega) (by omega)) ?_ | refine opP_i (idxPtr_ok (by omega) (by omega)) ?_ | refine opW_i lenSl_sl ?_ | refine opW_i min_w ?_ | refine opW_i max_w ?_ | refine load_at hO 0 rfl rfl ?_ | refine load_at hO 1 rfl rfl ?_ | refine load_at hO 2 rfl rfl ?_ | refine load_at hO 3 rfl rfl ?_ | refine load_at hO 4 rfl rfl ?_ | refine load_at hO 5 rfl rfl ?_ | refine load_at hO 6 rfl rfl ?_ | refine load_at hO 7 rfl rfl ?_ | refine load_at hO 8 rfl rfl ?_ | refine load_at hO 9 rfl rfl ?_ | refine wIf_yes (by first | assumption | omega) ?_ | refine wIf_no (by first | assumption | omega) ?_ | refine wIf_t rfl ?_ | refine wIf_f rfl ?_ | refine cond_yes rfl ?_ | refine cond_no rfl ?_ | refine load_at hO (Γ.length + 0) (at_r rfl) rfl ?_ | refine load_at hO (Γ.length + 1) (at_r rfl) rfl ?_ | refine load_at hO (Γ.length + 2) (at_r rfl) rfl ?_ | refine load_at hO (Γ.length + 3) (at_r rfl) rfl ?_ | refine load_at hO (Γ.length + 4) (at_r rfl) rfl ?_ | refine load_at hO (Γ.length + 5) (at_r rfl) rfl ?_)
      exact hk _ hO.left
    · repeat (first | refine opP_i (bin_addi (by omega) (by omega)) ?_ | refine opP_i (bin_subi (by omega) (by omega)) ?_ | refine opP_i nilCheck_ptr ?_ | refine opP_i offPtr_ptr ?_ | refine opP_i bin_eql ?_ | refine opP_i bin_neq ?_ | refine opP_i bin_lss ?_ | refine opP_i bin_gtr ?_ | refine opP_i bin_leq ?_ | refine opP_i bin_geq ?_ | refine opP_i un_not ?_ | refine opP_i pick_true ?_ | refine opP_i pick_false ?_ | refine opP_i (pick_yes (by first | assumption | omega)) ?_ | refine opP_i (pick_no (by first | assumption | omega)) ?_ | refine opP_i (idxSl_ok (by omega) (by omega)) ?_ | refine opP_i (idxPtr_ok (by omega) (by omega)) ?_ | refine opW_i lenSl_sl ?_ | refine opW_i min_w ?_ | refine opW_i max_w ?_ | refine load_at hO 0 rfl rfl ?_ | refine load_at hO 1 rfl rfl ?_ | refine load_at hO 2 rfl rfl ?_ | refine load_at hO 3 rfl rfl ?_ | refine load_at hO 4 rfl rfl ?_ | refine load_at hO 5 rfl rfl ?_ | refine load_at hO 6 rfl rfl ?_ | refine load_at hO 7 rfl rfl ?_ | refine load_at hO 8 rfl rfl ?_ | refine load_at hO 9 rfl rfl ?_ | refine wIf_yes (by first | assumption | omega) ?_ | refine wIf_no (by first | assumption | omega) ?_ | refine wIf_t rfl ?_ | refine wIf_f rfl ?_ | refine cond_yes rfl ?_ | refine cond_no rfl ?_ | refine load_at hO (Γ.length + 0) (at_r rfl) rfl ?_ | refine load_at hO (Γ.length + 1) (at_r rfl) rfl ?_ | refine load_at hO (Γ.length + 2) (at_r rfl) rfl ?_ | refine load_at hO (Γ.length + 3) (at_r rfl) rfl ?_ | refine load_at hO (Γ.length + 4) (at_r rfl) rfl ?_ | refine load_at hO (Γ.length + 5) (at_r rfl) rfl ?_)
      refine load_slot (t := t) (x := 1 - t.act) hO (Γ.length + 0) (at_r rfl) ha.flip (by omega) ?_
      refine ref10_Bootable_spec hO ?_
      intro H hO
      refine wIf_dec (fun h2 => ?_) (fun h2 => ?_)
      · rw [show vPick t = 1 - t.act by unfold vPick; rw [if_neg h1, if_pos h2]] at hk
        repeat (first | refine opP_i (bin_addi (by omega) (by omega)) ?_ | refine opP_i (bin_subi (by omega) (by omega)) ?_ | refine opP_i nilCheck_ptr ?_ | refine opP_i offPtr_ptr ?_ | refine opP_i bin_eql ?_ | refine opP_i bin_neq ?_ | refine opP_i bin_lss ?_ | refine opP_i bin_gtr ?_ | refine opP_i bin_leq ?_ | refine opP_i bin_geq ?_ | refine opP_i un_not ?_ | refine opP_i pick_true ?_ | refine opP_i pick_false ?_ | refine opP_i (pick_yes (by first | assumption | omega)) ?_ | refine opP_i (pick_no (by first | assumption | omega)) ?_ | refine opP_i (idxSl_ok (by omega) (by omega)) ?_ | refine opP_i (idxPtr_ok (by omega) (by omega)) ?_ | refine opW_i lenSl_sl ?_ | refine opW_i min_w ?_ | refine opW_i max_w ?_ | refine load_at hO 0 rfl rfl ?_ | refine load_at hO 1 rfl rfl ?_ | refine load_at hO 2 rfl rfl ?_ | refine load_at hO 3 rfl rfl ?_ | refine load_at hO 4 rfl rfl ?_ | refine load_at hO 5 rfl rfl ?_ | refine load_at hO 6 rfl rfl ?_ | refine load_at hO 7 rfl rfl ?_ | refine load_at hO 8 rfl rfl ?_ | refine load_at hO 9 rfl rfl ?_ | refine wIf_yes (by first | assumption | omega) ?_ | refine wIf_no (by first | assumption | omega) ?_ | refine wIf_t rfl ?_ | refine wIf_f rfl ?_ | refine cond_yes rfl ?_ | refine cond_no rfl ?_ | refine load_at hO (Γ.length + 0) (at_r rfl) rfl ?_ | refine load_at hO (Γ.length + 1) (at_r rfl) rfl ?_ | refine load_at hO (Γ.length + 2) (at_r rfl) rfl ?_ | refine load_at hO (Γ.length + 3) (at_r rfl) rfl ?_ | refine load_at hO (Γ.length + 4) (at_r rfl) rfl ?_ | refine load_at hO (Γ.length + 5) (at_r rfl) rfl ?_)
        exact hk _ hO.left
      · rw [show vPick t = -1 by unfold vPick; rw [if_neg h1, if_neg h2]] at hk
        repeat (first | refine opP_i (bin_addi (by omega) (by omega)) ?_ | refine opP_i (bin_subi (by omega) (by omega)) ?_ | refine opP_i nilCheck_ptr ?_ | refine opP_i offPtr_ptr ?_ | refine opP_i bin_eql ?_ | refine opP_i bin_neq ?_ | refine opP_i bin_lss ?_ | refine opP_i bin_gtr ?_ | refine opP_i bin_leq ?_ | refine opP_i bin_geq ?_ | refine opP_i un_not ?_ | refine opP_i pick_true ?_ | refine opP_i pick_false ?_ | refine opP_i (pick_yes (by first | assumption | omega)) ?_ | refine opP_i (pick_no (by first | assumption | omega)) ?_ | refine opP_i (idxSl_ok (by omega) (by omega)) ?_ | refine opP_i (idxPtr_ok (by omega) (by omega)) ?_ | refine opW_i lenSl_sl ?_ | refine opW_i min_w ?_ | refine opW_i max_w ?_ | refine load_at hO 0 rfl rfl ?_ | refine load_at hO 1 rfl rfl ?_ | refine load_at hO 2 rfl rfl ?_ | refine load_at hO 3 rfl rfl ?_ | refine load_at hO 4 rfl rfl ?_ | refine load_at hO 5 rfl rfl ?_ | refine load_at hO 6 rfl rfl ?_ | refine load_at hO 7 rfl rfl ?_ | refine load_at hO 8 rfl rfl ?_ | refine load_at hO 9 rfl rfl ?_ | refine wIf_yes (by first | assumption | omega) ?_ | refine wIf_no (by first | assumption | omega) ?_ | refine wIf_t rfl ?_ | refine wIf_f rfl ?_ | refine cond_yes rfl ?_ | refine cond_no rfl ?_ | refine load_at hO (Γ.length + 0) (at_r rfl) rfl ?_ | refine load_at hO (Γ.length + 1) (at_r rfl) rfl ?_ | refine load_at hO (Γ.length + 2) (at_r rfl) rfl ?_ | refine load_at hO (Γ.length + 3) (at_r rfl) rfl ?_ | refine load_at hO (Γ.length + 4) (at_r rfl) rfl ?_ | refine load_at hO (Γ.length + 5) (at_r rfl) rfl ?_)
        exact hk _ hO.left
  · rw [decide_eq_false h]
    repeat (first | refine opP_i (bin_addi (by omega) (by omega)) ?_ | refine opP_i (bin_subi (by omega) (by omega)) ?_ | refine opP_i nilCheck_ptr ?_ | refine opP_i offPtr_ptr ?_ | refine opP_i bin_eql ?_ | refine opP_i bin_neq ?_ | refine opP_i bin_lss ?_ | refine opP_i bin_gtr ?_ | refine opP_i bin_leq ?_ | refine opP_i bin_geq ?_ | refine opP_i un_not ?_ | refine opP_i pick_true ?_ | refine opP_i pick_false ?_ | refine opP_i (pick_yes (by first | assumption | omega)) ?_ | refine opP_i (pick_no (by first | assumption | omega)) ?_ | refine opP_i (idxSl_ok (by omega) (by omega)) ?_ | refine opP_i (idxPtr_ok (by omega) (by omega)) ?_ | refine opW_i lenSl_sl ?_ | refine opW_i min_w ?_ | refine opW_i max_w ?_ | refine load_at hO 0 rfl rfl ?_ | refine load_at hO 1 rfl rfl ?_ | refine load_at hO 2 rfl rfl ?_ | refine load_at hO 3 rfl rfl ?_ | refine load_at hO 4 rfl rfl ?_ | refine load_at hO 5 rfl rfl ?_ | refine load_at hO 6 rfl rfl ?_ | refine load_at hO 7 rfl rfl ?_ | refine load_at hO 8 rfl rfl ?_ | refine load_at hO 9 rfl rfl ?_ | refine wIf_yes (by first | assumption | omega) ?_ | refine wIf_no (by first | assumption | omega) ?_ | refine wIf_t rfl ?_ | refine wIf_f rfl ?_ | refine cond_yes rfl ?_ | refine cond_no rfl ?_ | refine load_at hO (Γ.length + 0) (at_r rfl) rfl ?_ | refine load_at hO (Γ.length + 1) (at_r rfl) rfl ?_ | refine load_at hO (Γ.length + 2) (at_r rfl) rfl ?_ | refine load_at hO (Γ.length + 3) (at_r rfl) rfl ?_ | refine load_at hO (Γ.length + 4) (at_r rfl) rfl ?_ | refine load_at hO (Γ.length + 5) (at_r rfl) rfl ?_)
    rw [show tPick t = -1 from if_neg h] at hk
    exact hk _ hO.left
def TAim (t : Tb) : Prop := TRight t ∧ t.act = t.boo ∧ (t.sl t.act).st = 3
instance (t : Tb) : Decidable (TAim t) := by unfold TAim; infer_instance
/-- which slot may be written -/
def tAim (t : Tb) : Int := if TAim t then 1 - t.act else -1
theorem boot_Aim_spec (hO : St H Γ) (hk : ∀ H', St H' Γ → K (int (tAim t)) H') : wCall P n_boot_Aim [agg (tbC t)] H K := by
  apply boot_Aim_ok; unfold boot_Aim
  refine new_at hO ?_
  intro p H hO
  refine loadAll_at hO (Γ.length + 0) (at_r rfl) rfl (by omega) ?_
  refine boot_look_spec hO ?_
  intro H hO
  refine opP_i ext0 ?_
  refine opP_i ext1 ?_
  rw [zc60]
  refine new_at hO ?_
  intro q H hO
  rw [List.append_assoc] at hO
  refine storeAll_at hO (Γ.length + 1) (at_r rfl) rfl rfl rfl ?_
  intro H hO
  have hO := hO.set_r
  by_cases h : TRight t
  · rw [decide_eq_true h]
    have ha := h.2.2.1
    have ha' := ha
    unfold Ix at ha'
    repeat (first | refine opP_i (bin_addi (by omega) (by omega)) ?_ | refine opP_i (bin_subi (by omega) (by omega)) ?_ | refine opP_i nilCheck_ptr ?_ | refine opP_i offPtr_ptr ?_ | refine opP_i bin_eql ?_ | refine opP_i bin_neq ?_ | refine opP_i bin_lss ?_ | refine opP_i bin_gtr ?_ | refine opP_i bin_leq ?_ | refine opP_i bin_geq ?_ | refine opP_i un_not ?_ | refine opP_i pick_true ?_ | refine opP_i pick_false ?_ | refine opP_i (pick_yes (by first | assumption | omega)) ?_ | refine opP_i (pick_no (by first | assumption | omega)) ?_ | refine opP_i (idxSl_ok (by omega) (by omega)) ?_ | refine opP_i (idxPtr_ok (by omega) (by omega)) ?_ | refine opW_i lenSl_sl ?_ | refine opW_i min_w ?_ | refine opW_i max_w ?_ | refine load_at hO 0 rfl rfl ?_ | refine load_at hO 1 rfl rfl ?_ | refine load_at hO 2 rfl rfl ?_ | refine load_at hO 3 rfl rfl ?_ | refine load_at hO 4 rfl rfl ?_ | refine load_at hO 5 rfl rfl ?_ | refine load_at hO 6 rfl rfl ?_ | refine load_at hO 7 rfl rfl ?_ | refine load_at hO 8 rfl rfl ?_ | refine load_at hO 9 rfl rfl ?_ | refine wIf_yes (by first | assumption | omega) ?_ | refine wIf_no (by first | assumption | omega) ?_ | refine wIf_t rfl ?_ | refine wIf_f rfl ?_ | refine cond_yes rfl ?_ | refine cond_no rfl ?_ | refine load_at hO (Γ.length + 0) (at_r rfl) rfl ?_ | refine load_at hO (Γ.length + 1) (at_r rfl) rfl ?_ | refine load_at hO (Γ.length + 2) (at_r rfl) rfl ?_ | refine load_at hO (Γ.length + 3) (at_r rfl) rfl ?_ | refine load_at hO (Γ.length + 4) (at_r rfl) rfl ?_ | refine load_at hO (Γ.length + 5) (at_r rfl) rfl ?_)
    by_cases h1 : t.act = t.boo
    · repeat (first | refine opP_i (bin_addi (by omega) (by omega)) ?_ | refine opP_i (bin_subi (by omega) (by omega)) ?_ | refine opP_i nilCheck_ptr ?_ | refine opP_i offPtr_ptr ?_ | refine opP_i bin_eql ?_ | refine opP_i bin_neq ?_ | refine opP_i bin_lss ?_ | refine opP_i bin_gtr ?_ | refine opP_i bin_leq ?_ | refine opP_i bin_geq ?_ | refine opP_i un_not ?_ | refine opP_i pick_true ?_ | refine opP_i pick_false ?_ | refine opP_i (pick_yes (by first | assumption | omega)) ?_ | refine opP_i (pick_no (by first | assumption | omega)) ?_ | refine opP_i (idxSl_ok (by omega) (by omega)) ?_ | refine opP_i (idxPtr_ok (by omega) (by omega)) ?_ | refine opW_i lenSl_sl ?_ | refine opW_i min_w ?_ | refine opW_i max_w ?_ | refine load_at hO 0 rfl rfl ?_ | refine load_at hO 1 rfl rfl ?_ | refine load_at hO 2 rfl rfl ?_ | refine load_at hO 3 rfl rfl ?_ | refine load_at hO 4 rfl rfl ?_ | refine load_at hO 5 rfl rfl ?_ | refine load_at hO 6 rfl rfl ?_ | refine load_at hO 7 rfl rfl ?_ | refine load_at hO 8 rfl rfl ?_ | refine load_at hO 9 rfl rfl ?_ | refine wIf_yes (by first | assumption | omega) ?_ | refine wIf_no (by first | assumption | omega) ?_ | refine wIf_t rfl ?_ | refine wIf_f rfl ?_ | refine cond_yes rfl ?_ | refine cond_no rfl ?_ | refine load_at hO (Γ.length + 0) (at_r rfl) rfl ?_ | refine load_at hO (Γ.length + 1) (at_r rfl) rfl ?_ | refine load_at hO (Γ.length + 2) (at_r rfl) rfl ?_ | refine load_at hO (Γ.length + 3) (at_r rfl) rfl ?_ | refine load_at hO (Γ.length + 4) (at_r rfl) rfl ?_ | refine load_at hO (Γ.length + 5) (at_r rfl) rfl ?_)
      refine loadAll_at hO (Γ.length + 1) (at_r rfl) rfl (by omega) ?_
      repeat (first | refine opP_i (bin_addi (by omega) (by omega)) ?_ | refine opP_i (bin_subi (by omega) (by omega)) ?_ | refine opP_i nilCheck_ptr ?_ | refine opP_i offPtr_ptr ?_ | refine opP_i bin_eql ?_ | refine opP_i bin_neq ?_ | refine opP_i bin_lss ?_ | refine opP_i bin_gtr ?_ | refine opP_i bin_leq ?_ | refine opP_i bin_geq ?_ | refine opP_i un_not ?_ | refine opP_i pick_true ?_ | refine opP_i pick_false ?_ | refine opP_i (pick_yes (by first | assumption | omega)) ?_ | refine opP_i (pick_no (by first | assumption | omega)) ?_ | refine opP_i (idxSl_ok (by omega) (by omega)) ?_ | refine opP_i (idxPtr_ok (by omega) (by omega)) ?_ | refine opW_i lenSl_sl ?_ | refine opW_i min_w ?_ | refine opW_i max_w ?_ | refine load_at hO 0 rfl rfl ?_ | refine load_at hO 1 rfl rfl ?_ | refine load_at hO 2 rfl rfl ?_ | refine load_at hO 3 rfl rfl ?_ | refine load_at hO 4 rfl rfl ?_ | refine load_at hO 5 rfl rfl ?_ | refine load_at hO 6 rfl rfl ?_ | refine load_at hO 7 rfl rfl ?_ | refine load_at hO 8 rfl rfl ?_ | refine load_at hO 9 rfl rfl ?_ | refine wIf_yes (by first | assumption | omega) ?_ | refine wIf_no (by first | assumption | omega) ?_ | refine wIf_t rfl ?_ | refine wIf_f rfl ?_ | refine cond_yes rfl ?_ | refine cond_no rfl ?_ | refine load_at hO (Γ.length + 0) (at_r rfl) rfl ?_ | refine load_at hO (Γ.length + 1) (at_r rfl) rfl ?_ | refine load_at hO (Γ.length + 2) (at_r rfl) rfl ?_ | refine load_at hO (Γ.length + 3) (at_r rfl) rfl ?_ | refine load_at hO (Γ.length + 4) (at_r rfl) rfl ?_ | refine load_at hO (Γ.length + 5) (at_r rfl) rfl ?_)
      refine boot_is_spec hO ha ?_
      intro H hO
      by_cases h2 : (t.sl t.act).st = 3
      · rw [decide_eq_true h2]
        repeat (first | refine opP_i (bin_addi (by omega) (by omega)) ?_ | refine opP_i (bin_subi (by omega) (by omega)) ?_ | refine opP_i nilCheck_ptr ?_ | refine opP_i offPtr_ptr ?_ | refine opP_i bin_eql ?_ | refine opP_i bin_neq ?_ | refine opP_i bin_lss ?_ | refine opP_i bin_gtr ?_ | refine opP_i bin_leq ?_ | refine opP_i bin_geq ?_ | refine opP_i un_not ?_ | refine opP_i pick_true ?_ | refine opP_i pick_false ?_ | refine opP_i (pick_yes (by first | assumption | omega)) ?_ | refine opP_i (pick_no (by first | assumption | omega)) ?_ | refine opP_i (idxSl_ok (by omega) (by omega)) ?_ | refine opP_i (idxPtr_ok (by omega) (by omega)) ?_ | refine opW_i lenSl_sl ?_ | refine opW_i min_w ?_ | refine opW_i max_w ?_ | refine load_at hO 0 rfl rfl ?_ | refine load_at hO 1 rfl rfl ?_ | refine load_at hO 2 rfl rfl ?_ | refine load_at hO 3 rfl rfl ?_ | refine load_at hO 4 rfl rfl ?_ | refine load_at hO 5 rfl rfl ?_ | refine load_at hO 6 rfl rfl ?_ | refine load_at hO 7 rfl rfl ?_ | refine load_at hO 8 rfl rfl ?_ | refine load_at hO 9 rfl rfl ?_ | refine wIf_yes (by first | assumption | omega) ?_ | refine wIf_no (by first | assumption | omega) ?_ | refine wIf_t rfl ?_ | refine wIf_f rfl ?_ | refine cond_yes rfl ?_ | refine cond_no rfl ?_ | refine load_at hO (Γ.length + 0) (at_r rfl) rfl ?_ | refine load_at hO (Γ.length + 1) (at_r rfl) rfl ?_ | refine load_at hO (Γ.length + 2) (at_r rfl) rfl ?_ | refine load_at hO (Γ.length + 3) (at_r rfl) rfl ?_ | refine load_at hO (Γ.length + 4) (at_r rfl) rfl ?_ | refine load_at hO (Γ.length + 5) (at_r rfl) rfl ?_)
        refine loadAll_at hO (Γ.length + 1) (at_r rfl) rfl (by omega) ?_
        refine boot_other_spec hO ha ?_
        intro H hO
        rw [show tAim t = 1 - t.act from if_pos ⟨h, h1, h2⟩] at hk
        exact hk _ hO.left
      · rw [decide_eq_false h2]
        repeat (first | refine opP_i (bin_addi (by omega) (by omega)) ?_ | refine opP_i (bin_subi (by omega) (by omega)) ?_ | refine opP_i nilCheck_ptr ?_ | refine opP_i offPtr_ptr ?_ | refine opP_i bin_eql ?_ | refine opP_i bin_neq ?_ | refine opP_i bin_lss ?_ | refine opP_i bin_gtr ?_ | refine opP_i bin_leq ?_ | refine opP_i bin_geq ?_ | refine opP_i un_not ?_ | refine opP_i pick_true ?_ | refine opP_i pick_false ?_ | refine opP_i (pick_yes (by first | assumption | omega)) ?_ | refine opP_i (pick_no (by first | assumption | omega)) ?_ | refine opP_i (idxSl_ok (by omega) (by omega)) ?_ | refine opP_i (idxPtr_ok (by omega) (by omega)) ?_ | refine opW_i lenSl_sl ?_ | refine opW_i min_w ?_ | refine opW_i max_w ?_ | refine load_at hO 0 rfl rfl ?_ | refine load_at hO 1 rfl rfl ?_ | refine load_at hO 2 rfl rfl ?_ | refine load_at hO 3 rfl rfl ?_ | refine load_at hO 4 rfl rfl ?_ | refine load_at hO 5 rfl rfl ?_ | refine load_at hO 6 rfl rfl ?_ | refine load_at hO 7 rfl rfl ?_ | refine load_at hO 8 rfl rfl ?_ | refine load_at hO 9 rfl rfl ?_ | refine wIf_yes (by first | assumption | omega) ?_ | refine wIf_no (by first | assumption | omega) ?_ | refine wIf_t rfl ?_ | refine wIf_f rfl ?_ | refine cond_yes rfl ?_ | refine cond_no rfl ?_ | refine load_at hO (Γ.length + 0) (at_r rfl) rfl ?_ | refine load_at hO (Γ.length + 1) (at_r rfl) rfl ?_ | refine load_at hO (Γ.length + 2) (at_r rfl) rfl ?_ | refine load_at hO (Γ.length + 3) (at_r rfl) rfl ?_ | refine load_at hO (Γ.length + 4) (at_r rfl) rfl ?_ | refine load_at hO (Γ.length + 5) (at_r rfl) rfl ?_)
        rw [show tAim t = -1 from if_neg fun h => h2 h.2.2] at hk
        exact hk _ hO.left
    · repeat (first | refine opP_i (bin_addi (by omega) (by omega)) ?_ | refine opP_i (bin_subi (by omega) (by omega)) ?_ | refine opP_i nilCheck_ptr ?_ | refine opP_i offPtr_ptr ?_ | refine opP_i bin_eql ?_ | refine opP_i bin_neq ?_ | refine opP_i bin_lss ?_ | refine opP_i bin_gtr ?_ | refine opP_i bin_leq ?_ | refine opP_i bin_geq ?_ | refine opP_i un_not ?_ | refine opP_i pick_true ?_ | refine opP_i pick_false ?_ | refine opP_i (pick_yes (by first | assumption | omega)) ?_ | refine opP_i (pick_no (by first | assumption | omega)) ?_ | refine opP_i (idxSl_ok (by omega) (by omega)) ?_ | refine opP_i (idxPtr_ok (by omega) (by omega)) ?_ | refine opW_i lenSl_sl ?_ | refine opW_i min_w ?_ | refine opW_i max_w ?_ | refine load_at hO 0 rfl rfl ?_ | refine load_at hO 1 rfl rfl ?_ | refine load_at hO 2 rfl rfl ?_ | refine load_at hO 3 rfl rfl ?_ | refine load_at hO 4 rfl rfl ?_ | refine load_at hO 5 rfl rfl ?_ | refine load_at hO 6 rfl rfl ?_ | refine load_at hO 7 rfl rfl ?_ | refine load_at hO 8 rfl rfl ?_ | refine load_at hO 9 rfl rfl ?_ | refine wIf_yes (by first | assumption | omega) ?_ | refine wIf_no (by first | assumption | omega) ?_ | refine wIf_t rfl ?_ | refine wIf_f rfl ?_ | refine cond_yes rfl ?_ | refine cond_no rfl ?_ | refine load_at hO (Γ.length + 0) (at_r rfl) rfl ?_ | refine load_at hO (Γ.length + 1) (at_r rfl) rfl ?_ | refine load_at hO (Γ.length + 2) (at_r rfl) rfl ?_ | refine load_at hO (Γ.length + 3) (at_r rfl) rfl ?_ | refine load_at hO (Γ.length + 4) (at_r rfl) rfl ?_ | refine load_at hO (Γ.length + 5) (at_r rfl) rfl ?_)
      rw [show tAim t = -1 from if_neg fun h => h1 h.2.1] at hk
      exact hk _ hO.left
  · rw [decide_eq_false h]
    repeat (first | refine opP_i (bin_addi (by omega) (by omega)) ?_ | refine opP_i (bin_subi (by omega) (by omega)) ?_ | refine opP_i nilCheck_ptr ?_ | refine opP_i offPtr_ptr ?_ | refine opP_i bin_eql ?_ | refine opP_i bin_neq ?_ | refine opP_i bin_lss ?_ | refine opP_i bin_gtr ?_ | refine opP_i bin_leq ?_ | refine opP_i bin_geq ?_ | refine opP_i un_not ?_ | refine opP_i pick_true ?_ | refine opP_i pick_false ?_ | refine opP_i (pick_yes (by first | assumption | omega)) ?_ | refine opP_i (pick_no (by first | assumption | omega)) ?_ | refine opP_i (idxSl_ok (by omega) (by omega)) ?_ | refine opP_i (idxPtr_ok (by omega) (by omega)) ?_ | refine opW_i lenSl_sl ?_ | refine opW_i min_w ?_ | refine opW_i max_w ?_ | refine load_at hO 0 rfl rfl ?_ | refine load_at hO 1 rfl rfl ?_ | refine load_at hO 2 rfl rfl ?_ | refine load_at hO 3 rfl rfl ?_ | refine load_at hO 4 rfl rfl ?_ | refine load_at hO 5 rfl rfl ?_ | refine load_at hO 6 rfl rfl ?_ | refine load_at hO 7 rfl rfl ?_ | refine load_at hO 8 rfl rfl ?_ | refine load_at hO 9 rfl rfl ?_ | refine wIf_yes (by first | assumption | omega) ?_ | refine wIf_no (by first | assumption | omega) ?_ | refine wIf_t rfl ?_ | refine wIf_f rfl ?_ | refine cond_yes rfl ?_ | refine cond_no rfl ?_ | refine load_at hO (Γ.length + 0) (at_r rfl) rfl ?_ | refine load_at hO (Γ.length + 1) (at_r rfl) rfl ?_ | refine load_at hO (Γ.length + 2) (at_r rfl) rfl ?_ | refine load_at hO (Γ.length + 3) (at_r rfl) rfl ?_ | refine load_at hO (Γ.length + 4) (at_r rfl) rfl ?_ | refine load_at hO (Γ.length + 5) (at_r rfl) rfl ?_)
    rw [show tAim t = -1 from if_neg fun h' => h h'.1] at hk
    exact hk _ hO.left
theorem ref12_Aim_spec (hO : St H Γ) (hk : ∀ H', St H' Γ → K (int (tAim t)) H') : wCall P n_ref12_Aim [agg (tbC t)] H K := by
  apply ref12_Aim_ok; unfold ref12_Aim
  refine new_at hO ?_
  intro p H hO
  refine join_with (fun l' H' => l' = [ptr p 0, .bool (decide (TAim t))] ∧ St H' (Γ ++ [(p, ⟨tbC t, true⟩)])) ?_ ?_
  · refine loadAll_at hO (Γ.length + 0) (at_r rfl) rfl (by omega) ?_
    refine ref11_Right_spec hO ?_
    intro H hO
    by_cases h : TRight t
    · rw [decide_eq_true h]
      have ha := h.2.2.1
      have ha' := ha
      unfold Ix at ha'
      repeat (first | refine opP_i (bin_addi (by omega) (by omega)) ?_ | refine opP_i (bin_subi (by omega) (by omega)) ?_ | refine opP_i nilCheck_ptr ?_ | refine opP_i offPtr_ptr ?_ | refine opP_i bin_eql ?_ | refine opP_i bin_neq ?_ | refine opP_i bin_lss ?_ | refine opP_i bin_gtr ?_ | refine opP_i bin_leq ?_ | refine opP_i bin_geq ?_ | refine opP_i un_not ?_ | refine opP_i pick_true ?_ | refine opP_i pick_false ?_ | refine opP_i (pick_yes (by first | assumption | omega)) ?_ | refine opP_i (pick_no (by first | assumption | omega)) ?_ | refine opP_i (idxSl_ok (by omega) (by omega)) ?_ | refine opP_i (idxPtr_ok (by omega) (by omega)) ?_ | refine opW_i lenSl_sl ?_ | refine opW_i min_w ?_ | refine opW_i max_w ?_ | refine load_at hO 0 rfl rfl ?_ | refine load_at hO 1 rfl rfl ?_ | refine load_at hO 2 rfl rfl ?_ | refine load_at hO 3 rfl rfl ?_ | refine load_at hO 4 rfl rfl ?_ | refine load_at hO 5 rfl rfl ?_ | refine load_at hO 6 rfl rfl ?_ | refine load_at hO 7 rfl rfl ?_ | refine load_at hO 8 rfl rfl ?_ | refine load_at hO 9 rfl rfl ?_ | refine wIf_yes (by first | assumption | omega) ?_ | refine wIf_no (by first | assumption | omega) ?_ | refine wIf_t rfl ?_ | refine wIf_f rfl ?_ | refine cond_yes rfl ?_ | refine cond_no rfl ?_ | refine load_at hO (Γ.length + 0) (at_r rfl) rfl ?_ | refine load_at hO (Γ.length + 1) (at_r rfl) rfl ?_ | refine load_at hO (Γ.length + 2) (at_r rfl) rfl ?_ | refine load_at hO (Γ.length + 3) (at_r rfl) rfl ?_ | refine load_at hO (Γ.length + 4) (at_r rfl) rfl ?_ | refine load_at hO (Γ.length + 5) (at_r rfl) rfl ?_)
      by_cases h1 : t.boo = t.act
      · repeat (first | refine opP_i (bin_addi (by omega) (by omega)) ?_ | refine opP_i (bin_subi (by omega) (by omega)) ?_ | refine opP_i nilCheck_ptr ?_ | refine opP_i offPtr_ptr ?_ | refine opP_i bin_eql ?_ | refine opP_i bin_neq ?_ | refine opP_i bin_lss ?_ | refine opP_i bin_gtr ?_ | refine opP_i bin_leq ?_ | refine opP_i bin_geq ?_ | refine opP_i un_not ?_ | refine opP_i pick_true ?_ | refine opP_i pick_false ?_ | refine opP_i (pick_yes (by first | assumption | omega)) ?_ | refine opP_i (pick_no (by first | assumption | omega)) ?_ | refine opP_i (idxSl_ok (by omega) (by omega)) ?_ | refine opP_i (idxPtr_ok (by omega) (by omega)) ?_ | refine opW_i lenSl_sl ?_ | refine opW_i min_w ?_ | refine opW_i max_w ?_ | refine load_at hO 0 rfl rfl ?_ | refine load_at hO 1 rfl rfl ?_ | refine load_at hO 2 rfl rfl ?_ | refine load_at hO 3 rfl rfl ?_ | refine load_at hO 4 rfl rfl ?_ | refine load_at hO 5 rfl rfl ?_ | refine load_at hO 6 rfl rfl ?_ | refine load_at hO 7 rfl rfl ?_ | refine load_at hO 8 rfl rfl ?_ | refine load_at hO 9 rfl rfl ?_ | refine wIf_yes (by first | assumption | omega) ?_ | refine wIf_no (by first | assumption | omega) ?_ | refine wIf_t rfl ?_ | refine wIf_f rfl ?_ | refine cond_yes rfl ?_ | refine cond_no rfl ?_ | refine load_at hO (Γ.length + 0) (at_r rfl) rfl ?_ | refine load_at hO (Γ.length + 1) (at_r rfl) rfl ?_ | refine load_at hO (Γ.length + 2) (at_r rfl) rfl ?_ | refine load_at hO (Γ.length + 3) (at_r rfl) rfl ?_ | refine load_at hO (Γ.length + 4) (at_r rfl) rfl ?_ | refine load_at hO (Γ.length + 5) (at_r rfl) rfl ?_)
        refine load_st (t := t) (x := t.act) hO (Γ.length + 0) (at_r rfl) ha (by omega) ?_
        repeat (first | refine opP_i (bin_addi (by omega) (by omega)) ?_ | refine opP_i (bin_subi (by omega) (by omega)) ?_ | refine opP_i nilCheck_ptr ?_ | refine opP_i offPtr_ptr ?_ | refine opP_i bin_eql ?_ | refine opP_i bin_neq ?_ | refine opP_i bin_lss ?_ | refine opP_i bin_gtr ?_ | refine opP_i bin_leq ?_ | refine opP_i bin_geq ?_ | refine opP_i un_not ?_ | refine opP_i pick_true ?_ | refine opP_i pick_false ?_ | refine opP_i (pick_yes (by first | assumption | omega)) ?_ | refine opP_i (pick_no (by first | assumption | omega)) ?_ | refine opP_i (idxSl_ok (by omega) (by omega)) ?_ | refine opP_i (idxPtr_ok (by omega) (by omega)) ?_ | refine opW_i lenSl_sl ?_ | refine opW_i min_w ?_ | refine opW_i max_w ?_ | refine load_at hO 0 rfl rfl ?_ | refine load_at hO 1 rfl rfl ?_ | refine load_at hO 2 rfl rfl ?_ | refine load_at hO 3 rfl rfl ?_ | refine load_at hO 4 rfl rfl ?_ | refine load_at hO 5 rfl rfl ?_ | refine load_at hO 6 rfl rfl ?_ | refine load_at hO 7 rfl rfl ?_ | refine load_at hO 8 rfl rfl ?_ | refine load_at hO 9 rfl rfl ?_ | refine wIf_yes (by first | assumption | omega) ?_ | refine wIf_no (by first | assumption | omega) ?_ | refine wIf_t rfl ?_ | refine wIf_f rfl ?_ | refine cond_yes rfl ?_ | refine cond_no rfl ?_ | refine load_at hO (Γ.length + 0) (at_r rfl) rfl ?_ | refine load_at hO (Γ.length + 1) (at_r rfl) rfl ?_ | refine load_at hO (Γ.length + 2) (at_r rfl) rfl ?_ | refine load_at hO (Γ.length + 3) (at_r rfl) rfl ?_ | refine load_at hO (Γ.length + 4) (at_r rfl) rfl ?_ | refine load_at hO (Γ.length + 5) (at_r rfl) rfl ?_)
        refine ⟨?_, hO⟩
        rw [show decide (TAim t) = decide ((t.sl t.act).st = 3) from decide_eq_decide.2 ⟨fun h => h.2.2, fun h2 => ⟨h, h1.symm, h2⟩⟩]
      · repeat (first | refine opP_i (bin_addi (by omega) (by omega)) ?_ | refine opP_i (bin_subi (by omega) (by omega)) ?_ | refine opP_i nilCheck_ptr ?_ | refine opP_i offPtr_ptr ?_ | refine opP_i bin_eql ?_ | refine opP_i bin_neq ?_ | refine opP_i bin_lss ?_ | refine opP_i bin_gtr ?_ | refine opP_i bin_leq ?_ | refine opP_i bin_geq ?_ | refine opP_i un_not ?_ | refine opP_i pick_true ?_ | refine opP_i pick_false ?_ | refine opP_i (pick_yes (by first | assumption | omega)) ?_ | refine opP_i (pick_no (by first | assumption | omega)) ?_ | refine opP_i (idxSl_ok (by omega) (by omega)) ?_ | refine opP_i (idxPtr_ok (by omega) (by omega)) ?_ | refine opW_i lenSl_sl ?_ | refine opW_i min_w ?_ | refine opW_i max_w ?_ | refine load_at hO 0 rfl rfl ?_ | refine load_at hO 1 rfl rfl ?_ | refine load_at hO 2 rfl rfl ?_ | refine load_at hO 3 rfl rfl ?_ | refine load_at hO 4 rfl rfl ?_ | refine load_at hO 5 rfl rfl ?_ | refine load_at hO 6 rfl rfl ?_ | refine load_at hO 7 rfl rfl ?_ | refine load_at hO 8 rfl rfl ?_ | refine load_at hO 9 rfl rfl ?_ | refine wIf_yes (by first | assumption | omega) ?_ | refine wIf_no (by first | assumption | omega) ?_ | refine wIf_t rfl ?_ | refine wIf_f rfl ?_ | refine cond_yes rfl ?_ | refine cond_no rfl ?_ | refine load_at hO (Γ.length + 0) (at_r rfl) rfl ?_ | refine load_at hO (Γ.length + 1) (at_r rfl) rfl ?_ | refine load_at hO (Γ.length + 2) (at_r rfl) rfl ?_ | refine load_at hO (Γ.length + 3) (at_r rfl) rfl ?_ | refine load_at hO (Γ.length + 4) (at_r rfl) rfl ?_ | refine load_at hO (Γ.length + 5) (at_r rfl) rfl ?_)
        refine ⟨?_, hO⟩
        rw [decide_eq_false (show ¬ TAim t from fun h => h1 h.2.1.symm)]
    · rw [decide_eq_false h]
      repeat (first | refine opP_i (bin_addi (by omega) (by omega)) ?_ | refine opP_i (bin_subi (by omega) (by omega)) ?_ | refine opP_i nilCheck_ptr ?_ | refine opP_i offPtr_ptr ?_ | refine opP_i bin_eql ?_ | refine opP_i bin_neq ?_ | refine opP_i bin_lss ?_ | refine opP_i bin_gtr ?_ | refine opP_i bin_leq ?_ | refine opP_i bin_geq ?_ | refine opP_i un_not ?_ | refine opP_i pick_true ?_ | refine opP_i pick_false ?_ | refine opP_i (pick_yes (by first | assumption | omega)) ?_ | refine opP_i (pick_no (by first | assumption | omega)) ?_ | refine opP_i (idxSl_ok (by omega) (by omega)) ?_ | refine opP_i (idxPtr_ok (by omega) (by omega)) ?_ | refine opW_i lenSl_sl ?_ | refine opW_i min_w ?_ | refine opW_i max_w ?_ | refine load_at hO 0 rfl rfl ?_ | refine load_at hO 1 rfl rfl ?_ | refine load_at hO 2 rfl rfl ?_ | refine load_at hO 3 rfl rfl ?_ | refine load_at hO 4 rfl rfl ?_ | refine load_at hO 5 rfl rfl ?_ | refine load_at hO 6 rfl rfl ?_ | refine load_at hO 7 rfl rfl ?_ | refine load_at hO 8 rfl rfl ?_ | refine load_at hO 9 rfl rfl ?_ | refine wIf_yes (by first | assumption | omega) ?_ | refine wIf_no (by first | assumption | omega) ?_ | refine wIf_t rfl ?_ | refine wIf_f rfl ?_ | refine cond_yes rfl ?_ | refine cond_no rfl ?_ | refine load_at hO (Γ.length + 0) (at_r rfl) rfl ?_ | refine load_at hO (Γ.length + 1) (at_r rfl) rfl ?_ | refine load_at hO (Γ.length + 2) (at_r rfl) rfl ?_ | refine load_at hO (Γ.length + 3) (at_r rfl) rfl ?_ | refine load_at hO (Γ.length + 4) (at_r rfl) rfl ?_ | refine load_at hO (Γ.length + 5) (at_r rfl) rfl ?_)
      refine ⟨?_, hO⟩
      rw [decide_eq_false (show ¬ TAim t from fun h' => h h'.1)]
  clear hO
  rintro l' H ⟨rfl, hO⟩
  try simp only [nth_zero, nth_succ]
  refine wIf_dec (fun h => ?_) (fun h => ?_)
  · rw [show tAim t = 1 - t.act from if_pos h] at hk
    have ha := h.1.2.2.1
    unfold Ix at ha
    repeat (first | refine opP_i (bin_addi (by omega) (by omega)) ?_ | refine opP_i (bin_subi (by omega) (by omega)) ?_ | refine opP_i nilCheck_ptr ?_ | refine opP_i offPtr_ptr ?_ | refine opP_i bin_eql ?_ | refine opP_i bin_neq ?_ | refine opP_i bin_lss ?_ | refine opP_i bin_gtr ?_ | refine opP_i bin_leq ?_ | refine opP_i bin_geq ?_ | refine opP_i un_not ?_ | refine opP_i pick_true ?_ | refine opP_i pick_false ?_ | refine opP_i (pick_yes (by first | assumption | omega)) ?_ | refine opP_i (pick_no (by first | assumption | omega)) ?_ | refine opP_i (idxSl_ok (by omega) (by omega)) ?_ | refine opP_i (idxPtr_ok (by omega) (by omega)) ?_ | refine opW_i lenSl_sl ?_ | refine opW_i min_w ?_ | refine opW_i max_w ?_ | refine load_at hO 0 rfl rfl ?_ | refine load_at hO 1 rfl rfl ?_ | refine load_at hO 2 rfl rfl ?_ | refine load_at hO 3 rfl rfl ?_ | refine load_at hO 4 rfl rfl ?_ | refine load_at hO 5 rfl rfl ?_ | refine load_at hO 6 rfl rfl ?_ | refine load_at hO 7 rfl rfl ?_ | refine load_at hO 8 rfl rfl ?_ | refine load_at hO 9 rfl rfl ?_ | refine wIf_yes (by first | assumption | omega) ?_ | refine wIf_no (by first | assumption | omega) ?_ | refine wIf_t rfl ?_ | refine wIf_f rfl ?_ | refine cond_yes rfl ?_ | refine cond_no rfl ?_ | refine load_at hO (Γ.length + 0) (at_r rfl) rfl ?_ | refine load_at hO (Γ.length + 1) (at_r rfl) rfl ?_ | refine load_at hO (Γ.length + 2) (at_r rfl) rfl ?_ | refine load_at hO (Γ.length + 3) (at_r rfl) rfl ?_ | refine load_at hO (Γ.length + 4) (at_r rfl) rfl ?_ | refine load_at hO (Γ.length + 5) (at_r rfl) rfl ?_)
    exact hk _ hO.left
  · rw [show tAim t = -1 from if_neg h] at hk
    exact hk _ hO.left
/-! changes -/
def cSet (i : Int) (s : Sl) : Ch := ⟨1, i, 0, s, 0⟩
def cAct (i : Int) : Ch := ⟨2, 0, i, slz 0, 0⟩
def cBoo (i : Int) : Ch := ⟨3, 0, i, slz 0, 0⟩
def cFlo (v : Int) : Ch := ⟨4, 0, 0, slz 0, v⟩
theorem b58s (i : Int) (s : Sl) : (buildC P 58).f [(0, int 1), (1, int i), (3, agg (slC s))] = some (agg (chC (cSet i s))) := by kernel_rfl
theorem b58a (i : Int) : (buildC P 58).f [(0, int 2), (2, int i)] = some (agg (chC (cAct i))) := by kernel_rfl
theorem b58b (i : Int) : (buildC P 58).f [(0, int 3), (2, int i)] = some (agg (chC (cBoo i))) := by kernel_rfl
theorem b58f (v : Int) : (buildC P 58).f [(0, int 4), (4, .int .u64 v)] = some (agg (chC (cFlo v))) := by kernel_rfl
theorem bs1 (c : Ch) (H : Heap) : (buildSliceC P 31 1).f [(0, agg (chC c))] H = some (sl H.next 0 1 81, H.push (chC c)) := by kernel_rfl
theorem bs2 (c c' : Ch) (H : Heap) : (buildSliceC P 31 2).f [(0, agg (chC c)), (1, agg (chC c'))] H = some (sl H.next 0 2 81, H.push (chC c ++ chC c')) := by kernel_rfl
theorem boot_set_spec {i : Int} {s : Sl} (hO : St H Γ) (hk : ∀ H', St H' Γ → K (agg (chC (cSet i s))) H') : wCall P n_boot_set [int i, agg (slC s)] H K := by
  apply boot_set_ok; unfold boot_set
  refine new_at hO ?_
  intro p H hO
  rw [zc58]
  refine new_at hO ?_
  intro q H hO
  rw [List.append_assoc] at hO
  refine loadAll_at hO (Γ.length + 0) (at_r rfl) rfl (by omega) ?_
  refine opP_i (b58s i s) ?_
  refine storeAll_at hO (Γ.length + 1) (at_r rfl) rfl rfl rfl ?_
  intro H hO
  have hO := hO.set_r
  refine loadAll_at hO (Γ.length + 1) (at_r rfl) rfl (by omega) ?_
  exact hk _ hO.left
theorem boot_active_spec {i : Int} (hO : St H Γ) (hk : ∀ H', St H' Γ → K (agg (chC (cAct i))) H') : wCall P n_boot_active [int i] H K := by
  apply boot_active_ok; unfold boot_active
  rw [zc58]
  refine new_at hO ?_
  intro q H hO
  refine opP_i (b58a i) ?_
  refine storeAll_at hO (Γ.length + 0) (at_r rfl) rfl rfl rfl ?_
  intro H hO
  have hO := hO.set_r
  refine loadAll_at hO (Γ.length + 0) (at_r rfl) rfl (by omega) ?_
  exact hk _ hO.left
theorem St.mid {L R : List (Nat × Blk)} (h : St H ((Γ ++ L) ++ R)) : St H (Γ ++ R) := h.sub (List.Sublist.append (List.sublist_append_left Γ L) (List.Sublist.refl R))
/-- the cells of changes -/
def chs (l : List Ch) : List Value := l.flatMap chC
/-- a list of changes that was made, and an error -/
abbrev Made (Γ : List (Nat × Blk)) (K : Value → Heap → Prop) (r : List Ch × Int) : Prop := ∀ (H' : Heap) (v : Value), St H' (Γ ++ outB v (chs r.1)) → Own 40 v r.1.length (chs r.1) → K (.tuple [v, int r.2].toArray) H'
theorem Made.none {e : Int} (h : Made Γ K ([], e)) (hO : St H Γ) : K (.tuple [nilSl, int e].toArray) H := h H nilSl (by show St H (Γ ++ []); rw [List.append_nil]; exact hO) Own.nil
theorem chC_len (c : Ch) : (chC c).length = 40 := rfl
theorem chs_len : ∀ l : List Ch, (chs l).length = l.length * 40
  | [] => rfl
  | c :: l => by
    show (chC c ++ chs l).length = _
    rw [List.length_append, chC_len, chs_len l, List.length_cons]; omega
theorem chs_one (c : Ch) : chs [c] = chC c := List.append_nil _
theorem chs_two (c c' : Ch) : chs [c, c'] = chC c ++ chC c' := by show chC c ++ (chC c' ++ []) = _; rw [List.append_nil]
theorem Made.slice {L : List (Nat × Blk)} {p n : Nat} {l : List Ch} {cs : List Value} {e : Int} (h : Made Γ K (l, e)) (hc : chs l = cs) (hn : l.length = n) (hO : St H ((Γ ++ L) ++ [(p, ⟨cs, true⟩)])) (cap : Nat) (hcap : cap = 80 ∨ cap = 81) : K (.tuple [sl p 0 n cap, int e].toArray) H := by
  subst hc; subst hn
  refine h H (sl p 0 l.length cap) (St.mid hO) (.inr ⟨p, ?_, chs_len l⟩)
  rcases hcap with rfl | rfl
  · exact .inl rfl
  · exact .inr rfl
theorem Made.one {L : List (Nat × Blk)} {p : Nat} {c : Ch} {e : Int} (h : Made Γ K ([c], e)) (hO : St H ((Γ ++ L) ++ [(p, ⟨chC c, true⟩)])) : K (.tuple [sl p 0 1 81, int e].toArray) H := h.slice (chs_one c) rfl hO 81 (.inr rfl)
theorem Made.two {L : List (Nat × Blk)} {p : Nat} {c c' : Ch} {e : Int} (h : Made Γ K ([c, c'], e)) (hO : St H ((Γ ++ L) ++ [(p, ⟨chC c ++ chC c', true⟩)])) : K (.tuple [sl p 0 2 81, int e].toArray) H := h.slice (chs_two c c') rfl hO 81 (.inr rfl)
def tWipe (t : Tb) : List Ch × Int := if tAim t = -1 then ([], 101) else ([cSet (tAim t) (slz 1)], 0)
theorem boot_Wipe_spec (hO : St H Γ) (hk : Made Γ K (tWipe t)) : wCall P n_boot_Wipe [agg (tbC t)] H K := by
  apply boot_Wipe_ok; unfold boot_Wipe
  refine new_at hO ?_
  intro p H hO
  refine loadAll_at hO (Γ.length + 0) (at_r rfl) rfl (by omega) ?_
  refine boot_Aim_spec hO ?_
  intro H hO
  repeat (first | refine opP_i (bin_addi (by omega) (by omega)) ?_ | refine opP_i (bin_subi (by omega) (by omega)) ?_ | refine opP_i nilCheck_ptr ?_ | refine opP_i offPtr_ptr ?_ | refine opP_i bin_eql ?_ | refine opP_i bin_neq ?_ | refine opP_i bin_lss ?_ | refine opP_i bin_gtr ?_ | refine opP_i bin_leq ?_ | refine opP_i bin_geq ?_ | refine opP_i un_not ?_ | refine opP_i pick_true ?_ | refine opP_i pick_false ?_ | refine opP_i (pick_yes (by first | assumption | omega)) ?_ | refine opP_i (pick_no (by first | assumption | omega)) ?_ | refine opP_i (idxSl_ok (by omega) (by omega)) ?_ | refine opP_i (idxPtr_ok (by omega) (by omega)) ?_ | refine opW_i lenSl_sl ?_ | refine opW_i min_w ?_ | refine opW_i max_w ?_ | refine load_at hO 0 rfl rfl ?_ | refine load_at hO 1 rfl rfl ?_ | refine load_at hO 2 rfl rfl ?_ | refine load_at hO 3 rfl rfl ?_ | refine load_at hO 4 rfl rfl ?_ | refine load_at hO 5 rfl rfl ?_ | refine load_at hO 6 rfl rfl ?_ | refine load_at hO 7 rfl rfl ?_ | refine load_at hO 8 rfl rfl ?_ | refine load_at hO 9 rfl rfl ?_ | refine wIf_yes (by first | assumption | omega) ?_ | refine wIf_no (by first | assumption | omega) ?_ | refine wIf_t rfl ?_ | refine wIf_f rfl ?_ | refine cond_yes rfl ?_ | refine cond_no rfl ?_)
  refine wIf_dec (fun h => ?_) (fun h => ?_)
  · rw [show tWipe t = ([], 101) from if_pos h] at hk
    exact hk.none hO.left
  · rw [show tWipe t = ([cSet (tAim t) (slz 1)], 0) from if_neg h] at hk
    refine opP_i (b26_0 1) ?_
    refine boot_set_spec hO ?_
    intro H hO
    refine newSl_at hO (bs1 _ _) ?_
    intro q H hO
    exact hk.one hO
theorem ref12_Wipe_spec (hO : St H Γ) (hk : Made Γ K (tWipe t)) : wCall P n_ref12_Wipe [agg (tbC t)] H K := by
  apply ref12_Wipe_ok; unfold ref12_Wipe
  refine new_at hO ?_
  intro p H hO
  refine loadAll_at hO (Γ.length + 0) (at_r rfl) rfl (by omega) ?_
  refine ref12_Aim_spec hO ?_
  intro H hO
  repeat (first | refine opP_i (bin_addi (by omega) (by omega)) ?_ | refine opP_i (bin_subi (by omega) (by omega)) ?_ | refine opP_i nilCheck_ptr ?_ | refine opP_i offPtr_ptr ?_ | refine opP_i bin_eql ?_ | refine opP_i bin_neq ?_ | refine opP_i bin_lss ?_ | refine opP_i bin_gtr ?_ | refine opP_i bin_leq ?_ | refine opP_i bin_geq ?_ | refine opP_i un_not ?_ | refine opP_i pick_true ?_ | refine opP_i pick_false ?_ | refine opP_i (pick_yes (by first | assumption | omega)) ?_ | refine opP_i (pick_no (by first | assumption | omega)) ?_ | refine opP_i (idxSl_ok (by omega) (by omega)) ?_ | refine opP_i (idxPtr_ok (by omega) (by omega)) ?_ | refine opW_i lenSl_sl ?_ | refine opW_i min_w ?_ | refine opW_i max_w ?_ | refine load_at hO 0 rfl rfl ?_ | refine load_at hO 1 rfl rfl ?_ | refine load_at hO 2 rfl rfl ?_ | refine load_at hO 3 rfl rfl ?_ | refine load_at hO 4 rfl rfl ?_ | refine load_at hO 5 rfl rfl ?_ | refine load_at hO 6 rfl rfl ?_ | refine load_at hO 7 rfl rfl ?_ | refine load_at hO 8 rfl rfl ?_ | refine load_at hO 9 rfl rfl ?_ | refine wIf_yes (by first | assumption | omega) ?_ | refine wIf_no (by first | assumption | omega) ?_ | refine wIf_t rfl ?_ | refine wIf_f rfl ?_ | refine cond_yes rfl ?_ | refine cond_no rfl ?_)
  refine wIf_dec (fun h => ?_) (fun h => ?_)
  · rw [show tWipe t = ([], 101) from if_pos h] at hk
    exact hk.none hO.left
  · rw [show tWipe t = ([cSet (tAim t) (slz 1)], 0) from if_neg h] at hk
    refine loadAll_at hO (Γ.length + 0) (at_r rfl) rfl (by omega) ?_
    refine ref12_Aim_spec hO ?_
    intro H hO
    refine opP_i (b26_0 1) ?_
    refine opP_i (b58s _ _) ?_
    refine newSl_at hO (bs1 _ _) ?_
    intro q H hO
    exact hk.one hO
end
end B
