import Derived.Test.YtkfbmfhfbfgojaaB3
set_option linter.unusedVariables false
set_option maxRecDepth 100000
namespace B
open Go Go.Ab
variable {H : Heap} {Γ : List (Nat × Blk)} {K : Value → Heap → Prop}
section
variable {s : Sl}
def sErr : Sl × Int := (slz 0, 101)
def sBad (s : Sl) : Sl × Int := if SRight s ∧ SFull s then (slz 4, 0) else sErr
def sGood (s : Sl) : Sl × Int := if SRight s ∧ SFull s then ({ s with st := 3, tr := 0 }, 0) else sErr
def sTry (s : Sl) : Sl × Int := if SRight s ∧ s.st = 2 ∧ 0 < s.tr then ({ s with tr := s.tr - 1 }, 0) else sErr
abbrev slR (r : Sl × Int) : Value := .tuple [agg (slC r.1), int r.2].toArray
theorem b26_g (s : Sl) : (buildC P 26).f [(0, int 3), (2, .int .u64 s.ver), (3, int s.sz), (4, agg (dgC s.dg))] = some (agg (slC { s with st := 3, tr := 0 })) := by kernel_rfl
theorem slot_Bad_spec (hO : St H Γ) (hk : ∀ H', St H' Γ → K (slR (sBad s)) H') : wCall P n_slot_Bad [agg (slC s)] H K := by
  apply slot_Bad_ok; unfold slot_Bad
  refine new_at hO ?_
  intro p H hO
  rw [zc26]
  refine new_at hO ?_
  intro q H hO
  rw [List.append_assoc] at hO
  refine join_with (fun l' H' => l' = [ptr q 0, .bool (decide ¬(SRight s ∧ SFull s))] ∧ St H' (Γ ++ [(p, ⟨slC s, true⟩), (q, ⟨slC (slz 0), true⟩)])) ?_ ?_
  · refine loadAll_at hO (Γ.length + 0) (at_r rfl) rfl (by omega) ?_
    refine slot_Right_spec hO ?_
    intro H hO
    by_cases hr : SRight s
    · rw [decide_eq_true hr]
      repeat (first | refine opP_i (bin_addi (by omega) (by omega)) ?_ | refine opP_i (bin_subi (by omega) (by omega)) ?_ | refine opP_i nilCheck_ptr ?_ | refine opP_i offPtr_ptr ?_ | refine opP_i bin_eql ?_ | refine opP_i bin_neq ?_ | refine opP_i bin_lss ?_ | refine opP_i bin_gtr ?_ | refine opP_i bin_leq ?_ | refine opP_i bin_geq ?_ | refine opP_i un_not ?_ | refine opP_i pick_true ?_ | refine opP_i pick_false ?_ | refine opP_i (pick_yes (by first | assumption | omega)) ?_ | refine opP_i (pick_no (by first | assumption | omega)) ?_ | refine opP_i (idxSl_ok (by omega) (by omega)) ?_ | refine opP_i (idxPtr_ok (by omega) (by omega)) ?_ | refine opW_i lenSl_sl ?_ | refine opW_i min_w ?_ | refine opW_i max_w ?_ | refine load_at hO 0 rfl rfl ?_ | refine load_at hO 1 rfl rfl ?_ | refine load_at hO 2 rfl rfl ?_ | refine load_at hO 3 rfl rfl ?_ | refine load_at hO 4 rfl rfl ?_ | refine load_at hO 5 rfl rfl ?_ | refine load_at hO 6 rfl rfl ?_ | refine load_at hO 7 rfl rfl ?_ | refine load_at hO 8 rfl rfl ?_ | refine load_at hO 9 rfl rfl ?_ | refine wIf_yes (by first | assumption | omega) ?_ | refine wIf_no (by first | assumption | omega) ?_ | refine wIf_t rfl ?_ | refine wIf_f rfl ?_ | refine cond_yes rfl ?_ | refine cond_no rfl ?_ | refine load_at hO (Γ.length + 0) (at_r rfl) rfl ?_ | refine load_at hO (Γ.length + 1) (at_r rfl) rfl ?_ | refine load_at hO (Γ.length + 2) (at_r rfl) rfl ?_ | refine load_at hO (Γ.length + 3) (at_r rfl) rfl ?_ | refine load_at hO (Γ.length + 4) (at_r rfl) rfl ?_ | refine load_at hO (Γ.length + 5) (at_r rfl) rfl ?_)
      refine loadAll_at hO (Γ.length + 0) (at_r rfl) rfl (by omega) ?_
      refine slot_full_spec hO ?_
      intro H hO
      repeat (first | refine opP_i (bin_addi (by omega) (by omega)) ?_ | refine opP_i (bin_subi (by omega) (by omega)) ?_ | refine opP_i nilCheck_ptr ?_ | refine opP_i offPtr_ptr ?_ | refine opP_i bin_eql ?_ | refine opP_i bin_neq ?_ | refine opP_i bin_lss ?_ | refine opP_i bin_gtr ?_ | refine opP_i bin_leq ?_ | refine opP_i bin_geq ?_ | refine opP_i un_not ?_ | refine opP_i pick_true ?_ | refine opP_i pick_false ?_ | refine opP_i (pick_yes (by first | assumption | omega)) ?_ | refine opP_i (pick_no (by first | assumption | omega)) ?_ | refine opP_i (idxSl_ok (by omega) (by omega)) ?_ | refine opP_i (idxPtr_ok (by omega) (by omega)) ?_ | refine opW_i lenSl_sl ?_ | refine opW_i min_w ?_ | refine opW_i max_w ?_ | refine load_at hO 0 rfl rfl ?_ | refine load_at hO 1 rfl rfl ?_ | refine load_at hO 2 rfl rfl ?_ | refine load_at hO 3 rfl rfl ?_ | refine load_at hO 4 rfl rfl ?_ | refine load_at hO 5 rfl rfl ?_ | refine load_at hO 6 rfl rfl ?_ | refine load_at hO 7 rfl rfl ?_ | refine load_at hO 8 rfl rfl ?_ | refine load_at hO 9 rfl rfl ?_ | refine wIf_yes (by first | assumption | omega) ?_ | refine wIf_no (by first | assumption | omega) ?_ | refine wIf_t rfl ?_ | refine wIf_f rfl ?_ | refine cond_yes rfl ?_ | refine cond_no rfl ?_ | refine load_at hO (Γ.length + 0) (at_r rfl) rfl ?_ | refine load_at hO (Γ.length + 1) (at_r rfl) rfl ?_ | refine load_at hO (Γ.length + 2) (at_r rfl) rfl ?_ | refine load_at hO (Γ.length + 3) (at_r rfl) rfl ?_ | refine load_at hO (Γ.length + 4) (at_r rfl) rfl ?_ | refine load_at hO (Γ.length + 5) (at_r rfl) rfl ?_)
      refine ⟨?_, hO⟩
      rw [show (decide ¬(SRight s ∧ SFull s)) = !decide (SFull s) by by_cases hf : SFull s <;> simp [hr, hf]]
    · rw [decide_eq_false hr]
      repeat (first | refine opP_i (bin_addi (by omega) (by omega)) ?_ | refine opP_i (bin_subi (by omega) (by omega)) ?_ | refine opP_i nilCheck_ptr ?_ | refine opP_i offPtr_ptr ?_ | refine opP_i bin_eql ?_ | refine opP_i bin_neq ?_ | refine opP_i bin_lss ?_ | refine opP_i bin_gtr ?_ | refine opP_i bin_leq ?_ | refine opP_i bin_geq ?_ | refine opP_i un_not ?_ | refine opP_i pick_true ?_ | refine opP_i pick_false ?_ | refine opP_i (pick_yes (by first | assumption | omega)) ?_ | refine opP_i (pick_no (by first | assumption | omega)) ?_ | refine opP_i (idxSl_ok (by omega) (by omega)) ?_ | refine opP_i (idxPtr_ok (by omega) (by omega)) ?_ | refine opW_i lenSl_sl ?_ | refine opW_i min_w ?_ | refine opW_i max_w ?_ | refine load_at hO 0 rfl rfl ?_ | refine load_at hO 1 rfl rfl ?_ | refine load_at hO 2 rfl rfl ?_ | refine load_at hO 3 rfl rfl ?_ | refine load_at hO 4 rfl rfl ?_ | refine load_at hO 5 rfl rfl ?_ | refine load_at hO 6 rfl rfl ?_ | refine load_at hO 7 rfl rfl ?_ | refine load_at hO 8 rfl rfl ?_ | refine load_at hO 9 rfl rfl ?_ | refine wIf_yes (by first | assumption | omega) ?_ | refine wIf_no (by first | assumption | omega) ?_ | refine wIf_t rfl ?_ | refine wIf_f rfl ?_ | refine cond_yes rfl ?_ | refine cond_no rfl ?_ | refine load_at hO (Γ.length + 0) (at_r rfl) rfl ?_ | refine load_at hO (Γ.length + 1) (at_r rfl) rfl ?_ | refine load_at hO (Γ.length + 2) (at_r rfl) rfl ?_ | refine load_at hO (Γ.length + 3) (at_r rfl) rfl ?_ | refine load_at hO (Γ.length + 4) (at_r rfl) rfl ?_ | refine load_at hO (Γ.length + 5) (at_r rfl) rfl ?_)
      refine ⟨?_, hO⟩
      rw [show (decide ¬(SRight s ∧ SFull s)) = true by simp [hr]]
  clear hO
  rintro l' H ⟨rfl, hO⟩
  try simp only [nth_zero, nth_succ]
  refine wIf_dec (fun h => ?_) (fun h => ?_)
  · rw [show sBad s = sErr from if_neg h] at hk
    refine opP_i b26 ?_
    refine storeAll_at hO (Γ.length + 1) (at_r rfl) rfl rfl rfl ?_
    intro H hO
    have hO := hO.set_r
    refine loadAll_at hO (Γ.length + 1) (at_r rfl) rfl (by omega) ?_
    exact hk _ hO.left
  · have h : SRight s ∧ SFull s := Decidable.not_not.1 h
    rw [show sBad s = (slz 4, 0) from if_pos h] at hk
    refine opP_i (b26_0 4) ?_
    refine storeAll_at hO (Γ.length + 1) (at_r rfl) rfl rfl rfl ?_
    intro H hO
    have hO := hO.set_r
    refine loadAll_at hO (Γ.length + 1) (at_r rfl) rfl (by omega) ?_
    exact hk _ hO.left
theorem slot_Good_spec (hO : St H Γ) (hk : ∀ H', St H' Γ → K (slR (sGood s)) H') : wCall P n_slot_Good [agg (slC s)] H K := by
  apply slot_Good_ok; unfold slot_Good
  refine new_at hO ?_
  intro p H hO
  rw [zc26]
  refine new_at hO ?_
  intro q H hO
  rw [List.append_assoc] at hO
  refine join_with (fun l' H' => l' = [ptr p 0, ptr q 0, .bool (decide ¬(SRight s ∧ SFull s))] ∧ St H' (Γ ++ [(p, ⟨slC s, true⟩), (q, ⟨slC (slz 0), true⟩)])) ?_ ?_
  · refine loadAll_at hO (Γ.length + 0) (at_r rfl) rfl (by omega) ?_
    refine slot_Right_spec hO ?_
    intro H hO
    by_cases hr : SRight s
    · rw [decide_eq_true hr]
      repeat (first | refine opP_i (bin_addi (by omega) (by omega)) ?_ | refine opP_i (bin_subi (by omega) (by omega)) ?_ | refine opP_i nilCheck_ptr ?_ | refine opP_i offPtr_ptr ?_ | refine opP_i bin_eql ?_ | refine opP_i bin_neq ?_ | refine opP_i bin_lss ?_ | refine opP_i bin_gtr ?_ | refine opP_i bin_leq ?_ | refine opP_i bin_geq ?_ | refine opP_i un_not ?_ | refine opP_i pick_true ?_ | refine opP_i pick_false ?_ | refine opP_i (pick_yes (by first | assumption | omega)) ?_ | refine opP_i (pick_no (by first | assumption | omega)) ?_ | refine opP_i (idxSl_ok (by omega) (by omega)) ?_ | refine opP_i (idxPtr_ok (by omega) (by omega)) ?_ | refine opW_i lenSl_sl ?_ | refine opW_i min_w ?_ | refine opW_i max_w ?_ | refine load_at hO 0 rfl rfl ?_ | refine load_at hO 1 rfl rfl ?_ | refine load_at hO 2 rfl rfl ?_ | refine load_at hO 3 rfl rfl ?_ | refine load_at hO 4 rfl rfl ?_ | refine load_at hO 5 rfl rfl ?_ | refine load_at hO 6 rfl rfl ?_ | refine load_at hO 7 rfl rfl ?_ | refine load_at hO 8 rfl rfl ?_ | refine load_at hO 9 rfl rfl ?_ | refine wIf_yes (by first | assumption | omega) ?_ | refine wIf_no (by first | assumption | omega) ?_ | refine wIf_t rfl ?_ | refine wIf_f rfl ?_ | refine cond_yes rfl ?_ | refine cond_no rfl ?_ | refine load_at hO (Γ.length + 0) (at_r rfl) rfl ?_ | refine load_at hO (Γ.length + 1) (at_r rfl) rfl ?_ | refine load_at hO (Γ.length + 2) (at_r rfl) rfl ?_ | refine load_at hO (Γ.length + 3) (at_r rfl) rfl ?_ | refine load_at hO (Γ.length + 4) (at_r rfl) rfl ?_ | refine load_at hO (Γ.length + 5) (at_r rfl) rfl ?_)
      refine loadAll_at hO (Γ.length + 0) (at_r rfl) rfl (by omega) ?_
      refine slot_full_spec hO ?_
      intro H hO
      repeat (first | refine opP_i (bin_addi (by omega) (by omega)) ?_ | refine opP_i (bin_subi (by omega) (by omega)) ?_ | refine opP_i nilCheck_ptr ?_ | refine opP_i offPtr_ptr ?_ | refine opP_i bin_eql ?_ | refine opP_i bin_neq ?_ | refine opP_i bin_lss ?_ | refine opP_i bin_gtr ?_ | refine opP_i bin_leq ?_ | refine opP_i bin_geq ?_ | refine opP_i un_not ?_ | refine opP_i pick_true ?_ | refine opP_i pick_false ?_ | refine opP_i (pick_yes (by first | assumption | omega)) ?_ | refine opP_i (pick_no (by first | assumption | omega)) ?_ | refine opP_i (idxSl_ok (by omega) (by omega)) ?_ | refine opP_i (idxPtr_ok (by omega) (by omega)) ?_ | refine opW_i lenSl_sl ?_ | refine opW_i min_w ?_ | refine opW_i max_w ?_ | refine load_at hO 0 rfl rfl ?_ | refine load_at hO 1 rfl rfl ?_ | refine load_at hO 2 rfl rfl ?_ | refine load_at hO 3 rfl rfl ?_ | refine load_at hO 4 rfl rfl ?_ | refine load_at hO 5 rfl rfl ?_ | refine load_at hO 6 rfl rfl ?_ | refine load_at hO 7 rfl rfl ?_ | refine load_at hO 8 rfl rfl ?_ | refine load_at hO 9 rfl rfl ?_ | refine wIf_yes (by first | assumption | omega) ?_ | refine wIf_no (by first | assumption | omega) ?_ | refine wIf_t rfl ?_ | refine wIf_f rfl ?_ | refine cond_yes rfl ?_ | refine cond_no rfl ?_ | refine load_at hO (Γ.length + 0) (at_r rfl) rfl ?_ | refine load_at hO (Γ.length + 1) (at_r rfl) rfl ?_ | refine load_at hO (Γ.length + 2) (at_r rfl) rfl ?_ | refine load_at hO (Γ.length + 3) (at_r rfl) rfl ?_ | refine load_at hO (Γ.length + 4) (at_r rfl) rfl ?_ | refine load_at hO (Γ.length + 5) (at_r rfl) rfl ?_)
      refine ⟨?_, hO⟩
      rw [show (decide ¬(SRight s ∧ SFull s)) = !decide (SFull s) by by_cases hf : SFull s <;> simp [hr, hf]]
    · rw [decide_eq_false hr]
      repeat (first | refine opP_i (bin_addi (by omega) (by omega)) ?_ | refine opP_i (bin_subi (by omega) (by omega)) ?_ | refine opP_i nilCheck_ptr ?_ | refine opP_i offPtr_ptr ?_ | refine opP_i bin_eql ?_ | refine opP_i bin_neq ?_ | refine opP_i bin_lss ?_ | refine opP_i bin_gtr ?_ | refine opP_i bin_leq ?_ | refine opP_i bin_geq ?_ | refine opP_i un_not ?_ | refine opP_i pick_true ?_ | refine opP_i pick_false ?_ | refine opP_i (pick_yes (by first | assumption | omega)) ?_ | refine opP_i (pick_no (by first | assumption | omega)) ?_ | refine opP_i (idxSl_ok (by omega) (by omega)) ?_ | refine opP_i (idxPtr_ok (by omega) (by omega)) ?_ | refine opW_i lenSl_sl ?_ | refine opW_i min_w ?_ | refine opW_i max_w ?_ | refine load_at hO 0 rfl rfl ?_ | refine load_at hO 1 rfl rfl ?_ | refine load_at hO 2 rfl rfl ?_ | refine load_at hO 3 rfl rfl ?_ | refine load_at hO 4 rfl rfl ?_ | refine load_at hO 5 rfl rfl ?_ | refine load_at hO 6 rfl rfl ?_ | refine load_at hO 7 rfl rfl ?_ | refine load_at hO 8 rfl rfl ?_ | refine load_at hO 9 rfl rfl ?_ | refine wIf_yes (by first | assumption | omega) ?_ | refine wIf_no (by first | assumption | omega) ?_ | refine wIf_t rfl ?_ | refine wIf_f rfl ?_ | refine cond_yes rfl ?_ | refine cond_no rfl ?_ | refine load_at hO (Γ.length + 0) (at_r rfl) rfl ?_ | refine load_at hO (Γ.length + 1) (at_r rfl) rfl ?_ | refine load_at hO (Γ.length + 2) (at_r rfl) rfl ?_ | refine load_at hO (Γ.length + 3) (at_r rfl) rfl ?_ | refine load_at hO (Γ.length + 4) (at_r rfl) rfl ?_ | refine load_at hO (Γ.length + 5) (at_r rfl) rfl ?_)
      refine ⟨?_, hO⟩
      rw [show (decide ¬(SRight s ∧ SFull s)) = true by simp [hr]]
  clear hO
  rintro l' H ⟨rfl, hO⟩
  try simp only [nth_zero, nth_succ]
  refine wIf_dec (fun h => ?_) (fun h => ?_)
  · rw [show sGood s = sErr from if_neg h] at hk
    refine opP_i b26 ?_
    refine storeAll_at hO (Γ.length + 1) (at_r rfl) rfl rfl rfl ?_
    intro H hO
    have hO := hO.set_r
    refine loadAll_at hO (Γ.length + 1) (at_r rfl) rfl (by omega) ?_
    exact hk _ hO.left
  · have h : SRight s ∧ SFull s := Decidable.not_not.1 h
    rw [show sGood s = ({ s with st := 3, tr := 0 }, 0) from if_pos h] at hk
    repeat (first | refine opP_i (bin_addi (by omega) (by omega)) ?_ | refine opP_i (bin_subi (by omega) (by omega)) ?_ | refine opP_i nilCheck_ptr ?_ | refine opP_i offPtr_ptr ?_ | refine opP_i bin_eql ?_ | refine opP_i bin_neq ?_ | refine opP_i bin_lss ?_ | refine opP_i bin_gtr ?_ | refine opP_i bin_leq ?_ | refine opP_i bin_geq ?_ | refine opP_i un_not ?_ | refine opP_i pick_true ?_ | refine opP_i pick_false ?_ | refine opP_i (pick_yes (by first | assumption | omega)) ?_ | refine opP_i (pick_no (by first | assumption | omega)) ?_ | refine opP_i (idxSl_ok (by omega) (by omega)) ?_ | refine opP_i (idxPtr_ok (by omega) (by omega)) ?_ | refine opW_i lenSl_sl ?_ | refine opW_i min_w ?_ | refine opW_i max_w ?_ | refine load_at hO 0 rfl rfl ?_ | refine load_at hO 1 rfl rfl ?_ | refine load_at hO 2 rfl rfl ?_ | refine load_at hO 3 rfl rfl ?_ | refine load_at hO 4 rfl rfl ?_ | refine load_at hO 5 rfl rfl ?_ | refine load_at hO 6 rfl rfl ?_ | refine load_at hO 7 rfl rfl ?_ | refine load_at hO 8 rfl rfl ?_ | refine load_at hO 9 rfl rfl ?_ | refine wIf_yes (by first | assumption | omega) ?_ | refine wIf_no (by first | assumption | omega) ?_ | refine wIf_t rfl ?_ | refine wIf_f rfl ?_ | refine cond_yes rfl ?_ | refine cond_no rfl ?_ | refine load_at hO (Γ.length + 0) (at_r rfl) rfl ?_ | refine load_at hO (Γ.length + 1) (at_r rfl) rfl ?_ | refine load_at hO (Γ.length + 2) (at_r rfl) rfl ?_ | refine load_at hO (Γ.length + 3) (at_r rfl) rfl ?_ | refine load_at hO (Γ.length + 4) (at_r rfl) rfl ?_ | refine load_at hO (Γ.length + 5) (at_r rfl) rfl ?_)
    refine store1_at hO (Γ.length + 0) (at_r rfl) rfl (show 0 < 36 by omega) (show _ = slC { s with st := 3 } from rfl) ?_
    intro H hO
    have hO := hO.set_r
    repeat (first | refine opP_i (bin_addi (by omega) (by omega)) ?_ | refine opP_i (bin_subi (by omega) (by omega)) ?_ | refine opP_i nilCheck_ptr ?_ | refine opP_i offPtr_ptr ?_ | refine opP_i bin_eql ?_ | refine opP_i bin_neq ?_ | refine opP_i bin_lss ?_ | refine opP_i bin_gtr ?_ | refine opP_i bin_leq ?_ | refine opP_i bin_geq ?_ | refine opP_i un_not ?_ | refine opP_i pick_true ?_ | refine opP_i pick_false ?_ | refine opP_i (pick_yes (by first | assumption | omega)) ?_ | refine opP_i (pick_no (by first | assumption | omega)) ?_ | refine opP_i (idxSl_ok (by omega) (by omega)) ?_ | refine opP_i (idxPtr_ok (by omega) (by omega)) ?_ | refine opW_i lenSl_sl ?_ | refine opW_i min_w ?_ | refine opW_i max_w ?_ | refine load_at hO 0 rfl rfl ?_ | refine load_at hO 1 rfl rfl ?_ | refine load_at hO 2 rfl rfl ?_ | refine load_at hO 3 rfl rfl ?_ | refine load_at hO 4 rfl rfl ?_ | refine load_at hO 5 rfl rfl ?_ | refine load_at hO 6 rfl rfl ?_ | refine load_at hO 7 rfl rfl ?_ | refine load_at hO 8 rfl rfl ?_ | refine load_at hO 9 rfl rfl ?_ | refine wIf_yes (by first | assumption | omega) ?_ | refine wIf_no (by first | assumption | omega) ?_ | refine wIf_t rfl ?_ | refine wIf_f rfl ?_ | refine cond_yes rfl ?_ | refine cond_no rfl ?_ | refine load_at hO (Γ.length + 0) (at_r rfl) rfl ?_ | refine load_at hO (Γ.length + 1) (at_r rfl) rfl ?_ | refine load_at hO (Γ.length + 2) (at_r rfl) rfl ?_ | refine load_at hO (Γ.length + 3) (at_r rfl) rfl ?_ | refine load_at hO (Γ.length + 4) (at_r rfl) rfl ?_ | refine load_at hO (Γ.length + 5) (at_r rfl) rfl ?_)
    refine store1_at hO (Γ.length + 0) (at_r rfl) rfl (show 1 < 36 by omega) (show _ = slC { s with st := 3, tr := 0 } from rfl) ?_
    intro H hO
    have hO := hO.set_r
    refine loadAll_at hO (Γ.length + 0) (at_r rfl) rfl (by omega) ?_
    refine storeAll_at hO (Γ.length + 1) (at_r rfl) rfl rfl rfl ?_
    intro H hO
    have hO := hO.set_r
    refine loadAll_at hO (Γ.length + 1) (at_r rfl) rfl (by omega) ?_
    exact hk _ hO.left
theorem ref10_Bad_spec (hO : St H Γ) (hk : ∀ H', St H' Γ → K (slR (sBad s)) H') : wCall P n_ref10_Bad [agg (slC s)] H K := by
  apply ref10_Bad_ok; unfold ref10_Bad
  refine new_at hO ?_
  intro p H hO
  rw [zc26]
  refine new_at hO ?_
  intro q H hO
  rw [List.append_assoc] at hO
  refine join_with (fun l' H' => l' = [ptr q 0, .bool (decide ¬(SRight s ∧ SFull s))] ∧ St H' (Γ ++ [(p, ⟨slC s, true⟩), (q, ⟨slC (slz 0), true⟩)])) ?_ ?_
  · refine loadAll_at hO (Γ.length + 0) (at_r rfl) rfl (by omega) ?_
    refine ref10_Right_spec hO ?_
    intro H hO
    by_cases hr : SRight s
    · rw [decide_eq_true hr]
      repeat (first | refine opP_i (bin_addi (by omega) (by omega)) ?_ | refine opP_i (bin_subi (by omega) (by omega)) ?_ | refine opP_i nilCheck_ptr ?_ | refine opP_i offPtr_ptr ?_ | refine opP_i bin_eql ?_ | refine opP_i bin_neq ?_ | refine opP_i bin_lss ?_ | refine opP_i bin_gtr ?_ | refine opP_i bin_leq ?_ | refine opP_i bin_geq ?_ | refine opP_i un_not ?_ | refine opP_i pick_true ?_ | refine opP_i pick_false ?_ | refine opP_i (pick_yes (by first | assumption | omega)) ?_ | refine opP_i (pick_no (by first | assumption | omega)) ?_ | refine opP_i (idxSl_ok (by omega) (by omega)) ?_ | refine opP_i (idxPtr_ok (by omega) (by omega)) ?_ | refine opW_i lenSl_sl ?_ | refine opW_i min_w ?_ | refine opW_i max_w ?_ | refine load_at hO 0 rfl rfl ?_ | refine load_at hO 1 rfl rfl ?_ | refine load_at hO 2 rfl rfl ?_ | refine load_at hO 3 rfl rfl ?_ | refine load_at hO 4 rfl rfl ?_ | refine load_at hO 5 rfl rfl ?_ | refine load_at hO 6 rfl rfl ?_ | refine load_at hO 7 rfl rfl ?_ | refine load_at hO 8 rfl rfl ?_ | refine load_at hO 9 rfl rfl ?_ | refine wIf_yes (by first | assumption | omega) ?_ | refine wIf_no (by first | assumption | omega) ?_ | refine wIf_t rfl ?_ | refine wIf_f rfl ?_ | refine cond_yes rfl ?_ | refine cond_no rfl ?_ | refine load_at hO (Γ.length + 0) (at_r rfl) rfl ?_ | refine load_at hO (Γ.length + 1) (at_r rfl) rfl ?_ | refine load_at hO (Γ.length + 2) (at_r rfl) rfl ?_ | refine load_at hO (Γ.length + 3) (at_r rfl) rfl ?_ | refine load_at hO (Γ.length + 4) (at_r rfl) rfl ?_ | refine load_at hO (Γ.length + 5) (at_r rfl) rfl ?_)
      by_cases h2 : s.st = 2
      · repeat (first | refine opP_i (bin_addi (by omega) (by omega)) ?_ | refine opP_i (bin_subi (by omega) (by omega)) ?_ | refine opP_i nilCheck_ptr ?_ | refine opP_i offPtr_ptr ?_ | refine opP_i bin_eql ?_ | refine opP_i bin_neq ?_ | refine opP_i bin_lss ?_ | refine opP_i bin_gtr ?_ | refine opP_i bin_leq ?_ | refine opP_i bin_geq ?_ | refine opP_i un_not ?_ | refine opP_i pick_true ?_ | refine opP_i pick_false ?_ | refine opP_i (pick_yes (by first | assumption | omega)) ?_ | refine opP_i (pick_no (by first | assumption | omega)) ?_ | refine opP_i (idxSl_ok (by omega) (by omega)) ?_ | refine opP_i (idxPtr_ok (by omega) (by omega)) ?_ | refine opW_i lenSl_sl ?_ | refine opW_i min_w ?_ | refine opW_i max_w ?_ | refine load_at hO 0 rfl rfl ?_ | refine load_at hO 1 rfl rfl ?_ | refine load_at hO 2 rfl rfl ?_ | refine load_at hO 3 rfl rfl ?_ | refine load_at hO 4 rfl rfl ?_ | refine load_at hO 5 rfl rfl ?_ | refine load_at hO 6 rfl rfl ?_ | refine load_at hO 7 rfl rfl ?_ | refine load_at hO 8 rfl rfl ?_ | refine load_at hO 9 rfl rfl ?_ | refine wIf_yes (by first | assumption | omega) ?_ | refine wIf_no (by first | assumption | omega) ?_ | refine wIf_t rfl ?_ | refine wIf_f rfl ?_ | refine cond_yes rfl ?_ | refine cond_no rfl ?_ | refine load_at hO (Γ.length + 0) (at_r rfl) rfl ?_ | refine load_at hO (Γ.length + 1) (at_r rfl) rfl ?_ | refine load_at hO (Γ.length + 2) (at_r rfl) rfl ?_ | refine load_at hO (Γ.length + 3) (at_r rfl) rfl ?_ | refine load_at hO (Γ.length + 4) (at_r rfl) rfl ?_ | refine load_at hO (Γ.length + 5) (at_r rfl) rfl ?_)
        refine ⟨?_, hO⟩
        rw [decide_eq_false (show ¬ ¬(SRight s ∧ SFull s) from fun h => h ⟨hr, .inl h2⟩)]
      · repeat (first | refine opP_i (bin_addi (by omega) (by omega)) ?_ | refine opP_i (bin_subi (by omega) (by omega)) ?_ | refine opP_i nilCheck_ptr ?_ | refine opP_i offPtr_ptr ?_ | refine opP_i bin_eql ?_ | refine opP_i bin_neq ?_ | refine opP_i bin_lss ?_ | refine opP_i bin_gtr ?_ | refine opP_i bin_leq ?_ | refine opP_i bin_geq ?_ | refine opP_i un_not ?_ | refine opP_i pick_true ?_ | refine opP_i pick_false ?_ | refine opP_i (pick_yes (by first | assumption | omega)) ?_ | refine opP_i (pick_no (by first | assumption | omega)) ?_ | refine opP_i (idxSl_ok (by omega) (by omega)) ?_ | refine opP_i (idxPtr_ok (by omega) (by omega)) ?_ | refine opW_i lenSl_sl ?_ | refine opW_i min_w ?_ | refine opW_i max_w ?_ | refine load_at hO 0 rfl rfl ?_ | refine load_at hO 1 rfl rfl ?_ | refine load_at hO 2 rfl rfl ?_ | refine load_at hO 3 rfl rfl ?_ | refine load_at hO 4 rfl rfl ?_ | refine load_at hO 5 rfl rfl ?_ | refine load_at hO 6 rfl rfl ?_ | refine load_at hO 7 rfl rfl ?_ | refine load_at hO 8 rfl rfl ?_ | refine load_at hO 9 rfl rfl ?_ | refine wIf_yes (by first | assumption | omega) ?_ | refine wIf_no (by first | assumption | omega) ?_ | refine wIf_t rfl ?_ | refine wIf_f rfl ?_ | refine cond_yes rfl ?_ | refine cond_no rfl ?_ | refine load_at hO (Γ.length + 0) (at_r rfl) rfl ?_ | refine load_at hO (Γ.length + 1) (at_r rfl) rfl ?_ | refine load_at hO (Γ.length + 2) (at_r rfl) rfl ?_ | refine load_at hO (Γ.length + 3) (at_r rfl) rfl ?_ | refine load_at hO (Γ.length + 4) (at_r rfl) rfl ?_ | refine load_at hO (Γ.length + 5) (at_r rfl) rfl ?_)
        refine ⟨?_, hO⟩
        rw [show (decide ¬(SRight s ∧ SFull s)) = decide (s.st ≠ 3) from decide_eq_decide.2 (by unfold SFull; constructor; exact fun h h3 => h ⟨hr, .inr h3⟩; (rintro h ⟨_, h3 | h3⟩; exact h2 h3; exact h h3))]
    · rw [decide_eq_false hr]
      repeat (first | refine opP_i (bin_addi (by omega) (by omega)) ?_ | refine opP_i (bin_subi (by omega) (by omega)) ?_ | refine opP_i nilCheck_ptr ?_ | refine opP_i offPtr_ptr ?_ | refine opP_i bin_eql ?_ | refine opP_i bin_neq ?_ | refine opP_i bin_lss ?_ | refine opP_i bin_gtr ?_ | refine opP_i bin_leq ?_ | refine opP_i bin_geq ?_ | refine opP_i un_not ?_ | refine opP_i pick_true ?_ | refine opP_i pick_false ?_ | refine opP_i (pick_yes (by first | assumption | omega)) ?_ | refine opP_i (pick_no (by first | assumption | omega)) ?_ | refine opP_i (idxSl_ok (by omega) (by omega)) ?_ | refine opP_i (idxPtr_ok (by omega) (by omega)) ?_ | refine opW_i lenSl_sl ?_ | refine opW_i min_w ?_ | refine opW_i max_w ?_ | refine load_at hO 0 rfl rfl ?_ | refine load_at hO 1 rfl rfl ?_ | refine load_at hO 2 rfl rfl ?_ | refine load_at hO 3 rfl rfl ?_ | refine load_at hO 4 rfl rfl ?_ | refine load_at hO 5 rfl rfl ?_ | refine load_at hO 6 rfl rfl ?_ | refine load_at hO 7 rfl rfl ?_ | refine load_at hO 8 rfl rfl ?_ | refine load_at hO 9 rfl rfl ?_ | refine wIf_yes (by first | assumption | omega) ?_ | refine wIf_no (by first | assumption | omega) ?_ | refine wIf_t rfl ?_ | refine wIf_f rfl ?_ | refine cond_yes rfl ?_ | refine cond_no rfl ?_ | refine load_at hO (Γ.length + 0) (at_r rfl) rfl ?_ | refine load_at hO (Γ.length + 1) (at_r rfl) rfl ?_ | refine load_at hO (Γ.length + 2) (at_r rfl) rfl ?_ | refine load_at hO (Γ.length + 3) (at_r rfl) rfl ?_ | refine load_at hO (Γ.length + 4) (at_r rfl) rfl ?_ | refine load_at hO (Γ.length + 5) (at_r rfl) rfl ?_)
      refine ⟨?_, hO⟩
      rw [show (decide ¬(SRight s ∧ SFull s)) = true by simp [hr]]
  clear hO
  rintro l' H ⟨rfl, hO⟩
  try simp only [nth_zero, nth_succ]
  refine wIf_dec (fun h => ?_) (fun h => ?_)
  · rw [show sBad s = sErr from if_neg h] at hk
    refine opP_i b26 ?_
    refine storeAll_at hO (Γ.length + 1) (at_r rfl) rfl rfl rfl ?_
    intro H hO
    have hO := hO.set_r
    refine loadAll_at hO (Γ.length + 1) (at_r rfl) rfl (by omega) ?_
    exact hk _ hO.left
  · have h : SRight s ∧ SFull s := Decidable.not_not.1 h
    rw [show sBad s = (slz 4, 0) from if_pos h] at hk
    refine opP_i (b26_0 4) ?_
    refine storeAll_at hO (Γ.length + 1) (at_r rfl) rfl rfl rfl ?_
    intro H hO
    have hO := hO.set_r
    refine loadAll_at hO (Γ.length + 1) (at_r rfl) rfl (by omega) ?_
    exact hk _ hO.left
theorem ref10_Good_spec (hO : St H Γ) (hk : ∀ H', St H' Γ → K (slR (sGood s)) H') : wCall P n_ref10_Good [agg (slC s)] H K := by
  apply ref10_Good_ok; unfold ref10_Good
  refine new_at hO ?_
  intro p H hO
  rw [zc26]
  refine new_at hO ?_
  intro q H hO
  rw [List.append_assoc] at hO
  refine join_with (fun l' H' => l' = [ptr p 0, ptr q 0, .bool (decide ¬(SRight s ∧ SFull s))] ∧ St H' (Γ ++ [(p, ⟨slC s, true⟩), (q, ⟨slC (slz 0), true⟩)])) ?_ ?_
  · refine loadAll_at hO (Γ.length + 0) (at_r rfl) rfl (by omega) ?_
    refine ref10_Right_spec hO ?_
    intro H hO
    by_cases hr : SRight s
    · rw [decide_eq_true hr]
      repeat (first | refine opP_i (bin_addi (by omega) (by omega)) ?_ | refine opP_i (bin_subi (by omega) (by omega)) ?_ | refine opP_i nilCheck_ptr ?_ | refine opP_i offPtr_ptr ?_ | refine opP_i bin_eql ?_ | refine opP_i bin_neq ?_ | refine opP_i bin_lss ?_ | refine opP_i bin_gtr ?_ | refine opP_i bin_leq ?_ | refine opP_i bin_geq ?_ | refine opP_i un_not ?_ | refine opP_i pick_true ?_ | refine opP_i pick_false ?_ | refine opP_i (pick_yes (by first | assumption | omega)) ?_ | refine opP_i (pick_no (by first | assumption | omega)) ?_ | refine opP_i (idxSl_ok (by omega) (by omega)) ?_ | refine opP_i (idxPtr_ok (by omega) (by omega)) ?_ | refine opW_i lenSl_sl ?_ | refine opW_i min_w ?_ | refine opW_i max_w ?_ | refine load_at hO 0 rfl rfl ?_ | refine load_at hO 1 rfl rfl ?_ | refine load_at hO 2 rfl rfl ?_ | refine load_at hO 3 rfl rfl ?_ | refine load_at hO 4 rfl rfl ?_ | refine load_at hO 5 rfl rfl ?_ | refine load_at hO 6 rfl rfl ?_ | refine load_at hO 7 rfl rfl ?_ | refine load_at hO 8 rfl rfl ?_ | refine load_at hO 9 rfl rfl ?_ | refine wIf_yes (by first | assumption | omega) ?_ | refine wIf_no (by first | assumption | omega) ?_ | refine wIf_t rfl ?_ | refine wIf_f rfl ?_ | refine cond_yes rfl ?_ | refine cond_no rfl ?_ | refine load_at hO (Γ.length + 0) (at_r rfl) rfl ?_ | refine load_at hO (Γ.length + 1) (at_r rfl) rfl ?_ | refine load_at hO (Γ.length + 2) (at_r rfl) rfl ?_ | refine load_at hO (Γ.length + 3) (at_r rfl) rfl ?_ | refine load_at hO (Γ.length + 4) (at_r rfl) rfl ?_ | refine load_at hO (Γ.length + 5) (at_r rfl) rfl ?_)
      by_cases h2 : s.st = 2
      · repeat (first | refine opP_i (bin_addi (by omega) (by omega)) ?_ | refine opP_i (bin_subi (by omega) (by omega)) ?_ | refine opP_i nilCheck_ptr ?_ | refine opP_i offPtr_ptr ?_ | refine opP_i bin_eql ?_ | refine opP_i bin_neq ?_ | refine opP_i bin_lss ?_ | refine opP_i bin_gtr ?_ | refine opP_i bin_leq ?_ | refine opP_i bin_geq ?_ | refine opP_i un_not ?_ | refine opP_i pick_true ?_ | refine opP_i pick_false ?_ | refine opP_i (pick_yes (by first | assumption | omega)) ?_ | refine opP_i (pick_no (by first | assumption | omega)) ?_ | refine opP_i (idxSl_ok (by omega) (by omega)) ?_ | refine opP_i (idxPtr_ok (by omega) (by omega)) ?_ | refine opW_i lenSl_sl ?_ | refine opW_i min_w ?_ | refine opW_i max_w ?_ | refine load_at hO 0 rfl rfl ?_ | refine load_at hO 1 rfl rfl ?_ | refine load_at hO 2 rfl rfl ?_ | refine load_at hO 3 rfl rfl ?_ | refine load_at hO 4 rfl rfl ?_ | refine load_at hO 5 rfl rfl ?_ | refine load_at hO 6 rfl rfl ?_ | refine load_at hO 7 rfl rfl ?_ | refine load_at hO 8 rfl rfl ?_ | refine load_at hO 9 rfl rfl ?_ | refine wIf_yes (by first | assumption | omega) ?_ | refine wIf_no (by first | assumption | omega) ?_ | refine wIf_t rfl ?_ | refine wIf_f rfl ?_ | refine cond_yes rfl ?_ | refine cond_no rfl ?_ | refine load_at hO (Γ.length + 0) (at_r rfl) rfl ?_ | refine load_at hO (Γ.length + 1) (at_r rfl) rfl ?_ | refine load_at hO (Γ.length + 2) (at_r rfl) rfl ?_ | refine load_at hO (Γ.length + 3) (at_r rfl) rfl ?_ | refine load_at hO (Γ.length + 4) (at_r rfl) rfl ?_ | refine load_at hO (Γ.length + 5) (at_r rfl) rfl ?_)
        refine ⟨?_, hO⟩
        rw [decide_eq_false (show ¬ ¬(SRight s ∧ SFull s) from fun h => h ⟨hr, .inl h2⟩)]
      · repeat (first | refine opP_i (bin_addi (by omega) (by omega)) ?_ | refine opP_i (bin_subi (by omega) (by omega)) ?_ | refine opP_i nilCheck_ptr ?_ | refine opP_i offPtr_ptr ?_ | refine opP_i bin_eql ?_ | refine opP_i bin_neq ?_ | refine opP_i bin_lss ?_ | refine opP_i bin_gtr ?_ | refine opP_i bin_leq ?_ | refine opP_i bin_geq ?_ | refine opP_i un_not ?_ | refine opP_i pick_true ?_ | refine opP_i pick_false ?_ | refine opP_i (pick_yes (by first | assumption | omega)) ?_ | refine opP_i (pick_no (by first | assumption | omega)) ?_ | refine opP_i (idxSl_ok (by omega) (by omega)) ?_ | refine opP_i (idxPtr_ok (by omega) (by omega)) ?_ | refine opW_i lenSl_sl ?_ | refine opW_i min_w ?_ | refine opW_i max_w ?_ | refine load_at hO 0 rfl rfl ?_ | refine load_at hO 1 rfl rfl ?_ | refine load_at hO 2 rfl rfl ?_ | refine load_at hO 3 rfl rfl ?_ | refine load_at hO 4 rfl rfl ?_ | refine load_at hO 5 rfl rfl ?_ | refine load_at hO 6 rfl rfl ?_ | refine load_at hO 7 rfl rfl ?_ | refine load_at hO 8 rfl rfl ?_ | refine load_at hO 9 rfl rfl ?_ | refine wIf_yes (by first | assumption | omega) ?_ | refine wIf_no (by first | assumption | omega) ?_ | refine wIf_t rfl ?_ | refine wIf_f rfl ?_ | refine cond_yes rfl ?_ | refine cond_no rfl ?_ | refine load_at hO (Γ.length + 0) (at_r rfl) rfl ?_ | refine load_at hO (Γ.length + 1) (at_r rfl) rfl ?_ | refine load_at hO (Γ.length + 2) (at_r rfl) rfl ?_ | refine load_at hO (Γ.length + 3) (at_r rfl) rfl ?_ | refine load_at hO (Γ.length + 4) (at_r rfl) rfl ?_ | refine load_at hO (Γ.length + 5) (at_r rfl) rfl ?_)
        refine ⟨?_, hO⟩
        rw [show (decide ¬(SRight s ∧ SFull s)) = decide (s.st ≠ 3) from decide_eq_decide.2 (by unfold SFull; constructor; exact fun h h3 => h ⟨hr, .inr h3⟩; (rintro h ⟨_, h3 | h3⟩; exact h2 h3; exact h h3))]
    · rw [decide_eq_false hr]
      repeat (first | refine opP_i (bin_addi (by omega) (by omega)) ?_ | refine opP_i (bin_subi (by omega) (by omega)) ?_ | refine opP_i nilCheck_ptr ?_ | refine opP_i offPtr_ptr ?_ | refine opP_i bin_eql ?_ | refine opP_i bin_neq ?_ | refine opP_i bin_lss ?_ | refine opP_i bin_gtr ?_ | refine opP_i bin_leq ?_ | refine opP_i bin_geq ?_ | refine opP_i un_not ?_ | refine opP_i pick_true ?_ | refine opP_i pick_false ?_ | refine opP_i (pick_yes (by first | assumption | omega)) ?_ | refine opP_i (pick_no (by first | assumption | omega)) ?_ | refine opP_i (idxSl_ok (by omega) (by omega)) ?_ | refine opP_i (idxPtr_ok (by omega) (by omega)) ?_ | refine opW_i lenSl_sl ?_ | refine opW_i min_w ?_ | refine opW_i max_w ?_ | refine load_at hO 0 rfl rfl ?_ | refine load_at hO 1 rfl rfl ?_ | refine load_at hO 2 rfl rfl ?_ | refine load_at hO 3 rfl rfl ?_ | refine load_at hO 4 rfl rfl ?_ | refine load_at hO 5 rfl rfl ?_ | refine load_at hO 6 rfl rfl ?_ | refine load_at hO 7 rfl rfl ?_ | refine load_at hO 8 rfl rfl ?_ | refine load_at hO 9 rfl rfl ?_ | refine wIf_yes (by first | assumption | omega) ?_ | refine wIf_no (by first | assumption | omega) ?_ | refine wIf_t rfl ?_ | refine wIf_f rfl ?_ | refine cond_yes rfl ?_ | refine cond_no rfl ?_ | refine load_at hO (Γ.length + 0) (at_r rfl) rfl ?_ | refine load_at hO (Γ.length + 1) (at_r rfl) rfl ?_ | refine load_at hO (Γ.length + 2) (at_r rfl) rfl ?_ | refine load_at hO (Γ.length + 3) (at_r rfl) rfl ?_ | refine load_at hO (Γ.length + 4) (at_r rfl) rfl ?_ | refine load_at hO (Γ.length + 5) (at_r rfl) rfl ?_)
      refine ⟨?_, hO⟩
      rw [show (decide ¬(SRight s ∧ SFull s)) = true by simp [hr]]
  clear hO
  rintro l' H ⟨rfl, hO⟩
  try simp only [nth_zero, nth_succ]
  refine wIf_dec (fun h => ?_) (fun h => ?_)
  · rw [show sGood s = sErr from if_neg h] at hk
    refine opP_i b26 ?_
    refine storeAll_at hO (Γ.length + 1) (at_r rfl) rfl rfl rfl ?_
    intro H hO
    have hO := hO.set_r
    refine loadAll_at hO (Γ.length + 1) (at_r rfl) rfl (by omega) ?_
    exact hk _ hO.left
  · have h : SRight s ∧ SFull s := Decidable.not_not.1 h
    rw [show sGood s = ({ s with st := 3, tr := 0 }, 0) from if_pos h] at hk
    repeat (first | refine opP_i (bin_addi (by omega) (by omega)) ?_ | refine opP_i (bin_subi (by omega) (by omega)) ?_ | refine opP_i nilCheck_ptr ?_ | refine opP_i offPtr_ptr ?_ | refine opP_i bin_eql ?_ | refine opP_i bin_neq ?_ | refine opP_i bin_lss ?_ | refine opP_i bin_gtr ?_ | refine opP_i bin_leq ?_ | refine opP_i bin_geq ?_ | refine opP_i un_not ?_ | refine opP_i pick_true ?_ | refine opP_i pick_false ?_ | refine opP_i (pick_yes (by first | assumption | omega)) ?_ | refine opP_i (pick_no (by first | assumption | omega)) ?_ | refine opP_i (idxSl_ok (by omega) (by omega)) ?_ | refine opP_i (idxPtr_ok (by omega) (by omega)) ?_ | refine opW_i lenSl_sl ?_ | refine opW_i min_w ?_ | refine opW_i max_w ?_ | refine load_at hO 0 rfl rfl ?_ | refine load_at hO 1 rfl rfl ?_ | refine load_at hO 2 rfl rfl ?_ | refine load_at hO 3 rfl rfl ?_ | refine load_at hO 4 rfl rfl ?_ | refine load_at hO 5 rfl rfl ?_ | refine load_at hO 6 rfl rfl ?_ | refine load_at hO 7 rfl rfl ?_ | refine load_at hO 8 rfl rfl ?_ | refine load_at hO 9 rfl rfl ?_ | refine wIf_yes (by first | assumption | omega) ?_ | refine wIf_no (by first | assumption | omega) ?_ | refine wIf_t rfl ?_ | refine wIf_f rfl ?_ | refine cond_yes rfl ?_ | refine cond_no rfl ?_ | refine load_at hO (Γ.length + 0) (at_r rfl) rfl ?_ | refine load_at hO (Γ.length + 1) (at_r rfl) rfl ?_ | refine load_at hO (Γ.length + 2) (at_r rfl) rfl ?_ | refine load_at hO (Γ.length + 3) (at_r rfl) rfl ?_ | refine load_at hO (Γ.length + 4) (at_r rfl) rfl ?_ | refine load_at hO (Γ.length + 5) (at_r rfl) rfl ?_)
    refine loadAgg_at hO (Γ.length + 0) (at_r rfl) (show _ = dgC s.dg from rfl) rfl (by omega) ?_
    refine opP_i (b26_g s) ?_
    refine storeAll_at hO (Γ.length + 1) (at_r rfl) rfl rfl rfl ?_
    intro H hO
    have hO := hO.set_r
    refine loadAll_at hO (Γ.length + 1) (at_r rfl) rfl (by omega) ?_
    exact hk _ hO.left
theorem slot_Try_spec (hO : St H Γ) (hk : ∀ H', St H' Γ → K (slR (sTry s)) H') : wCall P n_slot_Try [agg (slC s)] H K := by
  apply slot_Try_ok; unfold slot_Try
  refine new_at hO ?_
  intro p H hO
  rw [zc26]
  refine new_at hO ?_
  intro q H hO
  rw [List.append_assoc] at hO
  refine join_with (fun l' H' => l' = [ptr p 0, ptr q 0, .bool (decide ¬(SRight s ∧ s.st = 2 ∧ 0 < s.tr))] ∧ St H' (Γ ++ [(p, ⟨slC s, true⟩), (q, ⟨slC (slz 0), true⟩)])) ?_ ?_
  · refine loadAll_at hO (Γ.length + 0) (at_r rfl) rfl (by omega) ?_
    refine slot_Right_spec hO ?_
    intro H hO
    by_cases hr : SRight s
    · rw [decide_eq_true hr]
      repeat (first | refine opP_i (bin_addi (by omega) (by omega)) ?_ | refine opP_i (bin_subi (by omega) (by omega)) ?_ | refine opP_i nilCheck_ptr ?_ | refine opP_i offPtr_ptr ?_ | refine opP_i bin_eql ?_ | refine opP_i bin_neq ?_ | refine opP_i bin_lss ?_ | refine opP_i bin_gtr ?_ | refine opP_i bin_leq ?_ | refine opP_i bin_geq ?_ | refine opP_i un_not ?_ | refine opP_i pick_true ?_ | refine opP_i pick_false ?_ | refine opP_i (pick_yes (by first | assumption | omega)) ?_ | refine opP_i (pick_no (by first | assumption | omega)) ?_ | refine opP_i (idxSl_ok (by omega) (by omega)) ?_ | refine opP_i (idxPtr_ok (by omega) (by omega)) ?_ | refine opW_i lenSl_sl ?_ | refine opW_i min_w ?_ | refine opW_i max_w ?_ | refine load_at hO 0 rfl rfl ?_ | refine load_at hO 1 rfl rfl ?_ | refine load_at hO 2 rfl rfl ?_ | refine load_at hO 3 rfl rfl ?_ | refine load_at hO 4 rfl rfl ?_ | refine load_at hO 5 rfl rfl ?_ | refine load_at hO 6 rfl rfl ?_ | refine load_at hO 7 rfl rfl ?_ | refine load_at hO 8 rfl rfl ?_ | refine load_at hO 9 rfl rfl ?_ | refine wIf_yes (by first | assumption | omega) ?_ | refine wIf_no (by first | assumption | omega) ?_ | refine wIf_t rfl ?_ | refine wIf_f rfl ?_ | refine cond_yes rfl ?_ | refine cond_no rfl ?_ | refine load_at hO (Γ.length + 0) (at_r rfl) rfl ?_ | refine load_at hO (Γ.length + 1) (at_r rfl) rfl ?_ | refine load_at hO (Γ.length + 2) (at_r rfl) rfl ?_ | refine load_at hO (Γ.length + 3) (at_r rfl) rfl ?_ | refine load_at hO (Γ.length + 4) (at_r rfl) rfl ?_ | refine load_at hO (Γ.length + 5) (at_r rfl) rfl ?_)
      by_cases h2 : s.st = 2
      · repeat (first | refine opP_i (bin_addi (by omega) (by omega)) ?_ | refine opP_i (bin_subi (by omega) (by omega)) ?_ | refine opP_i nilCheck_ptr ?_ | refine opP_i offPtr_ptr ?_ | refine opP_i bin_eql ?_ | refine opP_i bin_neq ?_ | refine opP_i bin_lss ?_ | refine opP_i bin_gtr ?_ | refine opP_i bin_leq ?_ | refine opP_i bin_geq ?_ | refine opP_i un_not ?_ | refine opP_i pick_true ?_ | refine opP_i pick_false ?_ | refine opP_i (pick_yes (by first | assumption | omega)) ?_ | refine opP_i (pick_no (by first | assumption | omega)) ?_ | refine opP_i (idxSl_ok (by omega) (by omega)) ?_ | refine opP_i (idxPtr_ok (by omega) (by omega)) ?_ | refine opW_i lenSl_sl ?_ | refine opW_i min_w ?_ | refine opW_i max_w ?_ | refine load_at hO 0 rfl rfl ?_ | refine load_at hO 1 rfl rfl ?_ | refine load_at hO 2 rfl rfl ?_ | refine load_at hO 3 rfl rfl ?_ | refine load_at hO 4 rfl rfl ?_ | refine load_at hO 5 rfl rfl ?_ | refine load_at hO 6 rfl rfl ?_ | refine load_at hO 7 rfl rfl ?_ | refine load_at hO 8 rfl rfl ?_ | refine load_at hO 9 rfl rfl ?_ | refine wIf_yes (by first | assumption | omega) ?_ | refine wIf_no (by first | assumption | omega) ?_ | refine wIf_t rfl ?_ | refine wIf_f rfl ?_ | refine cond_yes rfl ?_ | refine cond_no rfl ?_ | refine load_at hO (Γ.length + 0) (at_r rfl) rfl ?_ | refine load_at hO (Γ.length + 1) (at_r rfl) rfl ?_ | refine load_at hO (Γ.length + 2) (at_r rfl) rfl ?_ | refine load_at hO (Γ.length + 3) (at_r rfl) rfl ?_ | refine load_at hO (Γ.length + 4) (at_r rfl) rfl ?_ | refine load_at hO (Γ.length + 5) (at_r rfl) rfl ?_)
        refine ⟨?_, hO⟩
        have h0 : 0 ≤ s.tr := by unfold SRight at hr; omega
        rw [show (decide ¬(SRight s ∧ s.st = 2 ∧ 0 < s.tr)) = decide (s.tr = 0) from decide_eq_decide.2 ⟨fun h => by have : ¬ 0 < s.tr := fun h3 => h ⟨hr, h2, h3⟩; omega, fun h h3 => by omega⟩]
      · repeat (first | refine opP_i (bin_addi (by omega) (by omega)) ?_ | refine opP_i (bin_subi (by omega) (by omega)) ?_ | refine opP_i nilCheck_ptr ?_ | refine opP_i offPtr_ptr ?_ | refine opP_i bin_eql ?_ | refine opP_i bin_neq ?_ | refine opP_i bin_lss ?_ | refine opP_i bin_gtr ?_ | refine opP_i bin_leq ?_ | refine opP_i bin_geq ?_ | refine opP_i un_not ?_ | refine opP_i pick_true ?_ | refine opP_i pick_false ?_ | refine opP_i (pick_yes (by first | assumption | omega)) ?_ | refine opP_i (pick_no (by first | assumption | omega)) ?_ | refine opP_i (idxSl_ok (by omega) (by omega)) ?_ | refine opP_i (idxPtr_ok (by omega) (by omega)) ?_ | refine opW_i lenSl_sl ?_ | refine opW_i min_w ?_ | refine opW_i max_w ?_ | refine load_at hO 0 rfl rfl ?_ | refine load_at hO 1 rfl rfl ?_ | refine load_at hO 2 rfl rfl ?_ | refine load_at hO 3 rfl rfl ?_ | refine load_at hO 4 rfl rfl ?_ | refine load_at hO 5 rfl rfl ?_ | refine load_at hO 6 rfl rfl ?_ | refine load_at hO 7 rfl rfl ?_ | refine load_at hO 8 rfl rfl ?_ | refine load_at hO 9 rfl rfl ?_ | refine wIf_yes (by first | assumption | omega) ?_ | refine wIf_no (by first | assumption | omega) ?_ | refine wIf_t rfl ?_ | refine wIf_f rfl ?_ | refine cond_yes rfl ?_ | refine cond_no rfl ?_ | refine load_at hO (Γ.length + 0) (at_r rfl) rfl ?_ | refine load_at hO (Γ.length + 1) (at_r rfl) rfl ?_ | refine load_at hO (Γ.length + 2) (at_r rfl) rfl ?_ | refine load_at hO (Γ.length + 3) (at_r rfl) rfl ?_ | refine load_at hO (Γ.length + 4) (at_r rfl) rfl ?_ | refine load_at hO (Γ.length + 5) (at_r rfl) rfl ?_)
        refine ⟨?_, hO⟩
        rw [decide_eq_true (show ¬(SRight s ∧ s.st = 2 ∧ 0 < s.tr) from fun h => h2 h.2.1)]
    · rw [decide_eq_false hr]
      repeat (first | refine opP_i (bin_addi (by omega) (by omega)) ?_ | refine opP_i (bin_subi (by omega) (by omega)) ?_ | refine opP_i nilCheck_ptr ?_ | refine opP_i offPtr_ptr ?_ | refine opP_i bin_eql ?_ | refine opP_i bin_neq ?_ | refine opP_i bin_lss ?_ | refine opP_i bin_gtr ?_ | refine opP_i bin_leq ?_ | refine opP_i bin_geq ?_ | refine opP_i un_not ?_ | refine opP_i pick_true ?_ | refine opP_i pick_false ?_ | refine opP_i (pick_yes (by first | assumption | omega)) ?_ | refine opP_i (pick_no (by first | assumption | omega)) ?_ | refine opP_i (idxSl_ok (by omega) (by omega)) ?_ | refine opP_i (idxPtr_ok (by omega) (by omega)) ?_ | refine opW_i lenSl_sl ?_ | refine opW_i min_w ?_ | refine opW_i max_w ?_ | refine load_at hO 0 rfl rfl ?_ | refine load_at hO 1 rfl rfl ?_ | refine load_at hO 2 rfl rfl ?_ | refine load_at hO 3 rfl rfl ?_ | refine load_at hO 4 rfl rfl ?_ | refine load_at hO 5 rfl rfl ?_ | refine load_at hO 6 rfl rfl ?_ | refine load_at hO 7 rfl rfl ?_ | refine load_at hO 8 rfl rfl ?_ | refine load_at hO 9 rfl rfl ?_ | refine wIf_yes (by first | assumption | omega) ?_ | refine wIf_no (by first | assumption | omega) ?_ | refine wIf_t rfl ?_ | refine wIf_f rfl ?_ | refine cond_yes rfl ?_ | refine cond_no rfl ?_ | refine load_at hO (Γ.length + 0) (at_r rfl) rfl ?_ | refine load_at hO (Γ.length + 1) (at_r rfl) rfl ?_ | refine load_at hO (Γ.length + 2) (at_r rfl) rfl ?_ | refine load_at hO (Γ.length + 3) (at_r rfl) rfl ?_ | refine load_at hO (Γ.length + 4) (at_r rfl) rfl ?_ | refine load_at hO (Γ.length + 5) (at_r rfl) rfl ?_)
      refine ⟨?_, hO⟩
      rw [show (decide ¬(SRight s ∧ s.st = 2 ∧ 0 < s.tr)) = true by simp [hr]]
  clear hO
  rintro l' H ⟨rfl, hO⟩
  try simp only [nth_zero, nth_succ]
  refine wIf_dec (fun h => ?_) (fun h => ?_)
  · rw [show sTry s = sErr from if_neg h] at hk
    refine opP_i b26 ?_
    refine storeAll_at hO (Γ.length + 1) (at_r rfl) rfl rfl rfl ?_
    intro H hO
    have hO := hO.set_r
    refine loadAll_at hO (Γ.length + 1) (at_r rfl) rfl (by omega) ?_
    exact hk _ hO.left
  · have h : SRight s ∧ s.st = 2 ∧ 0 < s.tr := Decidable.not_not.1 h
    have h7 : s.tr ≤ 7 := by have := h.1; unfold SRight at this; omega
    rw [show sTry s = ({ s with tr := s.tr - 1 }, 0) from if_pos h] at hk
    repeat (first | refine opP_i (bin_addi (by omega) (by omega)) ?_ | refine opP_i (bin_subi (by omega) (by omega)) ?_ | refine opP_i nilCheck_ptr ?_ | refine opP_i offPtr_ptr ?_ | refine opP_i bin_eql ?_ | refine opP_i bin_neq ?_ | refine opP_i bin_lss ?_ | refine opP_i bin_gtr ?_ | refine opP_i bin_leq ?_ | refine opP_i bin_geq ?_ | refine opP_i un_not ?_ | refine opP_i pick_true ?_ | refine opP_i pick_false ?_ | refine opP_i (pick_yes (by first | assumption | omega)) ?_ | refine opP_i (pick_no (by first | assumption | omega)) ?_ | refine opP_i (idxSl_ok (by omega) (by omega)) ?_ | refine opP_i (idxPtr_ok (by omega) (by omega)) ?_ | refine opW_i lenSl_sl ?_ | refine opW_i min_w ?_ | refine opW_i max_w ?_ | refine load_at hO 0 rfl rfl ?_ | refine load_at hO 1 rfl rfl ?_ | refine load_at hO 2 rfl rfl ?_ | refine load_at hO 3 rfl rfl ?_ | refine load_at hO 4 rfl rfl ?_ | refine load_at hO 5 rfl rfl ?_ | refine load_at hO 6 rfl rfl ?_ | refine load_at hO 7 rfl rfl ?_ | refine load_at hO 8 rfl rfl ?_ | refine load_at hO 9 rfl rfl ?_ | refine wIf_yes (by first | assumption | omega) ?_ | refine wIf_no (by first | assumption | omega) ?_ | refine wIf_t rfl ?_ | refine wIf_f rfl ?_ | refine cond_yes rfl ?_ | refine cond_no rfl ?_ | refine load_at hO (Γ.length + 0) (at_r rfl) rfl ?_ | refine load_at hO (Γ.length + 1) (at_r rfl) rfl ?_ | refine load_at hO (Γ.length + 2) (at_r rfl) rfl ?_ | refine load_at hO (Γ.length + 3) (at_r rfl) rfl ?_ | refine load_at hO (Γ.length + 4) (at_r rfl) rfl ?_ | refine load_at hO (Γ.length + 5) (at_r rfl) rfl ?_)
    refine store1_at hO (Γ.length + 0) (at_r rfl) rfl (show 1 < 36 by omega) (show _ = slC { s with tr := s.tr - 1 } from rfl) ?_
    intro H hO
    have hO := hO.set_r
    refine loadAll_at hO (Γ.length + 0) (at_r rfl) rfl (by omega) ?_
    refine storeAll_at hO (Γ.length + 1) (at_r rfl) rfl rfl rfl ?_
    intro H hO
    have hO := hO.set_r
    refine loadAll_at hO (Γ.length + 1) (at_r rfl) rfl (by omega) ?_
    exact hk _ hO.left
theorem ref10_Try_spec (hO : St H Γ) (hk : ∀ H', St H' Γ → K (slR (sTry s)) H') : wCall P n_ref10_Try [agg (slC s)] H K := by
  apply ref10_Try_ok; unfold ref10_Try
  refine new_at hO ?_
  intro p H hO
  rw [zc26]
  refine new_at hO ?_
  intro q H hO
  rw [List.append_assoc] at hO
  refine join_with (fun l' H' => l' = [ptr p 0, ptr q 0, .bool (decide ¬(SRight s ∧ s.st = 2 ∧ 0 < s.tr))] ∧ St H' (Γ ++ [(p, ⟨slC s, true⟩), (q, ⟨slC (slz 0), true⟩)])) ?_ ?_
  · refine loadAll_at hO (Γ.length + 0) (at_r rfl) rfl (by omega) ?_
    refine ref10_Right_spec hO ?_
    intro H hO
    by_cases hr : SRight s
    · rw [decide_eq_true hr]
      repeat (first | refine opP_i (bin_addi (by omega) (by omega)) ?_ | refine opP_i (bin_subi (by omega) (by omega)) ?_ | refine opP_i nilCheck_ptr ?_ | refine opP_i offPtr_ptr ?_ | refine opP_i bin_eql ?_ | refine opP_i bin_neq ?_ | refine opP_i bin_lss ?_ | refine opP_i bin_gtr ?_ | refine opP_i bin_leq ?_ | refine opP_i bin_geq ?_ | refine opP_i un_not ?_ | refine opP_i pick_true ?_ | refine opP_i pick_false ?_ | refine opP_i (pick_yes (by first | assumption | omega)) ?_ | refine opP_i (pick_no (by first | assumption | omega)) ?_ | refine opP_i (idxSl_ok (by omega) (by omega)) ?_ | refine opP_i (idxPtr_ok (by omega) (by omega)) ?_ | refine opW_i lenSl_sl ?_ | refine opW_i min_w ?_ | refine opW_i max_w ?_ | refine load_at hO 0 rfl rfl ?_ | refine load_at hO 1 rfl rfl ?_ | refine load_at hO 2 rfl rfl ?_ | refine load_at hO 3 rfl rfl ?_ | refine load_at hO 4 rfl rfl ?_ | refine load_at hO 5 rfl rfl ?_ | refine load_at hO 6 rfl rfl ?_ | refine load_at hO 7 rfl rfl ?_ | refine load_at hO 8 rfl rfl ?_ | refine load_at hO 9 rfl rfl ?_ | refine wIf_yes (by first | assumption | omega) ?_ | refine wIf_no (by first | assumption | omega) ?_ | refine wIf_t rfl ?_ | refine wIf_f rfl ?_ | refine cond_yes rfl ?_ | refine cond_no rfl ?_ | refine load_at hO (Γ.length + 0) (at_r rfl) rfl ?_ | refine load_at hO (Γ.length + 1) (at_r rfl) rfl ?_ | refine load_at hO (Γ.length + 2) (at_r rfl) rfl ?_ | refine load_at hO (Γ.length + 3) (at_r rfl) rfl ?_ | refine load_at hO (Γ.length + 4) (at_r rfl) rfl ?_ | refine load_at hO (Γ.length + 5) (at_r rfl) rfl ?_)
      by_cases h2 : s.st = 2
      · repeat (first | refine opP_i (bin_addi (by omega) (by omega)) ?_ | refine opP_i (bin_subi (by omega) (by omega)) ?_ | refine opP_i nilCheck_ptr ?_ | refine opP_i offPtr_ptr ?_ | refine opP_i bin_eql ?_ | refine opP_i bin_neq ?_ | refine opP_i bin_lss ?_ | refine opP_i bin_gtr ?_ | refine opP_i bin_leq ?_ | refine opP_i bin_geq ?_ | refine opP_i un_not ?_ | refine opP_i pick_true ?_ | refine opP_i pick_false ?_ | refine opP_i (pick_yes (by first | assumption | omega)) ?_ | refine opP_i (pick_no (by first | assumption | omega)) ?_ | refine opP_i (idxSl_ok (by omega) (by omega)) ?_ | refine opP_i (idxPtr_ok (by omega) (by omega)) ?_ | refine opW_i lenSl_sl ?_ | refine opW_i min_w ?_ | refine opW_i max_w ?_ | refine load_at hO 0 rfl rfl ?_ | refine load_at hO 1 rfl rfl ?_ | refine load_at hO 2 rfl rfl ?_ | refine load_at hO 3 rfl rfl ?_ | refine load_at hO 4 rfl rfl ?_ | refine load_at hO 5 rfl rfl ?_ | refine load_at hO 6 rfl rfl ?_ | refine load_at hO 7 rfl rfl ?_ | refine load_at hO 8 rfl rfl ?_ | refine load_at hO 9 rfl rfl ?_ | refine wIf_yes (by first | assumption | omega) ?_ | refine wIf_no (by first | assumption | omega) ?_ | refine wIf_t rfl ?_ | refine wIf_f rfl ?_ | refine cond_yes rfl ?_ | refine cond_no rfl ?_ | refine load_at hO (Γ.length + 0) (at_r rfl) rfl ?_ | refine load_at hO (Γ.length + 1) (at_r rfl) rfl ?_ | refine load_at hO (Γ.length + 2) (at_r rfl) rfl ?_ | refine load_at hO (Γ.length + 3) (at_r rfl) rfl ?_ | refine load_at hO (Γ.length + 4) (at_r rfl) rfl ?_ | refine load_at hO (Γ.length + 5) (at_r rfl) rfl ?_)
        refine ⟨?_, hO⟩
        have h0 : 0 ≤ s.tr := by unfold SRight at hr; omega
        rw [show (decide ¬(SRight s ∧ s.st = 2 ∧ 0 < s.tr)) = decide (s.tr < 1) from decide_eq_decide.2 ⟨fun h => by have : ¬ 0 < s.tr := fun h3 => h ⟨hr, h2, h3⟩; omega, fun h h3 => by omega⟩]
      · repeat (first | refine opP_i (bin_addi (by omega) (by omega)) ?_ | refine opP_i (bin_subi (by omega) (by omega)) ?_ | refine opP_i nilCheck_ptr ?_ | refine opP_i offPtr_ptr ?_ | refine opP_i bin_eql ?_ | refine opP_i bin_neq ?_ | refine opP_i bin_lss ?_ | refine opP_i bin_gtr ?_ | refine opP_i bin_leq ?_ | refine opP_i bin_geq ?_ | refine opP_i un_not ?_ | refine opP_i pick_true ?_ | refine opP_i pick_false ?_ | refine opP_i (pick_yes (by first | assumption | omega)) ?_ | refine opP_i (pick_no (by first | assumption | omega)) ?_ | refine opP_i (idxSl_ok (by omega) (by omega)) ?_ | refine opP_i (idxPtr_ok (by omega) (by omega)) ?_ | refine opW_i lenSl_sl ?_ | refine opW_i min_w ?_ | refine opW_i max_w ?_ | refine load_at hO 0 rfl rfl ?_ | refine load_at hO 1 rfl rfl ?_ | refine load_at hO 2 rfl rfl ?_ | refine load_at hO 3 rfl rfl ?_ | refine load_at hO 4 rfl rfl ?_ | refine load_at hO 5 rfl rfl ?_ | refine load_at hO 6 rfl rfl ?_ | refine load_at hO 7 rfl rfl ?_ | refine load_at hO 8 rfl rfl ?_ | refine load_at hO 9 rfl rfl ?_ | refine wIf_yes (by first | assumption | omega) ?_ | refine wIf_no (by first | assumption | omega) ?_ | refine wIf_t rfl ?_ | refine wIf_f rfl ?_ | refine cond_yes rfl ?_ | refine cond_no rfl ?_ | refine load_at hO (Γ.length + 0) (at_r rfl) rfl ?_ | refine load_at hO (Γ.length + 1) (at_r rfl) rfl ?_ | refine load_at hO (Γ.length + 2) (at_r rfl) rfl ?_ | refine load_at hO (Γ.length + 3) (at_r rfl) rfl ?_ | refine load_at hO (Γ.length + 4) (at_r rfl) rfl ?_ | refine load_at hO (Γ.length + 5) (at_r rfl) rfl ?_)
        refine ⟨?_, hO⟩
        rw [decide_eq_true (show ¬(SRight s ∧ s.st = 2 ∧ 0 < s.tr) from fun h => h2 h.2.1)]
    · rw [decide_eq_false hr]
      repeat (first | refine opP_i (bin_addi (by omega) (by omega)) ?_ | refine opP_i (bin_subi (by omega) (by omega)) ?_ | refine opP_i nilCheck_ptr ?_ | refine opP_i offPtr_ptr ?_ | refine opP_i bin_eql ?_ | refine opP_i bin_neq ?_ | refine opP_i bin_lss ?_ | refine opP_i bin_gtr ?_ | refine opP_i bin_leq ?_ | refine opP_i bin_geq ?_ | refine opP_i un_not ?_ | refine opP_i pick_true ?_ | refine opP_i pick_false ?_ | refine opP_i (pick_yes (by first | assumption | omega)) ?_ | refine opP_i (pick_no (by first | assumption | omega)) ?_ | refine opP_i (idxSl_ok (by omega) (by omega)) ?_ | refine opP_i (idxPtr_ok (by omega) (by omega)) ?_ | refine opW_i lenSl_sl ?_ | refine opW_i min_w ?_ | refine opW_i max_w ?_ | refine load_at hO 0 rfl rfl ?_ | refine load_at hO 1 rfl rfl ?_ | refine load_at hO 2 rfl rfl ?_ | refine load_at hO 3 rfl rfl ?_ | refine load_at hO 4 rfl rfl ?_ | refine load_at hO 5 rfl rfl ?_ | refine load_at hO 6 rfl rfl ?_ | refine load_at hO 7 rfl rfl ?_ | refine load_at hO 8 rfl rfl ?_ | refine load_at hO 9 rfl rfl ?_ | refine wIf_yes (by first | assumption | omega) ?_ | refine wIf_no (by first | assumption | omega) ?_ | refine wIf_t rfl ?_ | refine wIf_f rfl ?_ | refine cond_yes rfl ?_ | refine cond_no rfl ?_ | refine load_at hO (Γ.length + 0) (at_r rfl) rfl ?_ | refine load_at hO (Γ.length + 1) (at_r rfl) rfl ?_ | refine load_at hO (Γ.length + 2) (at_r rfl) rfl ?_ | refine load_at hO (Γ.length + 3) (at_r rfl) rfl ?_ | refine load_at hO (Γ.length + 4) (at_r rfl) rfl ?_ | refine load_at hO (Γ.length + 5) (at_r rfl) rfl ?_)
      refine ⟨?_, hO⟩
      rw [show (decide ¬(SRight s ∧ s.st = 2 ∧ 0 < s.tr)) = true by simp [hr]]
  clear hO
  rintro l' H ⟨rfl, hO⟩
  try simp only [nth_zero, nth_succ]
  refine wIf_dec (fun h => ?_) (fun h => ?_)
  · rw [show sTry s = sErr from if_neg h] at hk
    refine opP_i b26 ?_
    refine storeAll_at hO (Γ.length + 1) (at_r rfl) rfl rfl rfl ?_
    intro H hO
    have hO := hO.set_r
    refine loadAll_at hO (Γ.length + 1) (at_r rfl) rfl (by omega) ?_
    exact hk _ hO.left
  · have h : SRight s ∧ s.st = 2 ∧ 0 < s.tr := Decidable.not_not.1 h
    have h7 : s.tr ≤ 7 := by have := h.1; unfold SRight at this; omega
    rw [show sTry s = ({ s with tr := s.tr - 1 }, 0) from if_pos h] at hk
    repeat (first | refine opP_i (bin_addi (by omega) (by omega)) ?_ | refine opP_i (bin_subi (by omega) (by omega)) ?_ | refine opP_i nilCheck_ptr ?_ | refine opP_i offPtr_ptr ?_ | refine opP_i bin_eql ?_ | refine opP_i bin_neq ?_ | refine opP_i bin_lss ?_ | refine opP_i bin_gtr ?_ | refine opP_i bin_leq ?_ | refine opP_i bin_geq ?_ | refine opP_i un_not ?_ | refine opP_i pick_true ?_ | refine opP_i pick_false ?_ | refine opP_i (pick_yes (by first | assumption | omega)) ?_ | refine opP_i (pick_no (by first | assumption | omega)) ?_ | refine opP_i (idxSl_ok (by omega) (by omega)) ?_ | refine opP_i (idxPtr_ok (by omega) (by omega)) ?_ | refine opW_i lenSl_sl ?_ | refine opW_i min_w ?_ | refine opW_i max_w ?_ | refine load_at hO 0 rfl rfl ?_ | refine load_at hO 1 rfl rfl ?_ | refine load_at hO 2 rfl rfl ?_ | refine load_at hO 3 rfl rfl ?_ | refine load_at hO 4 rfl rfl ?_ | refine load_at hO 5 rfl rfl ?_ | refine load_at hO 6 rfl rfl ?_ | refine load_at hO 7 rfl rfl ?_ | refine load_at hO 8 rfl rfl ?_ | refine load_at hO 9 rfl rfl ?_ | refine wIf_yes (by first | assumption | omega) ?_ | refine wIf_no (by first | assumption | omega) ?_ | refine wIf_t rfl ?_ | refine wIf_f rfl ?_ | refine cond_yes rfl ?_ | refine cond_no rfl ?_ | refine load_at hO (Γ.length + 0) (at_r rfl) rfl ?_ | refine load_at hO (Γ.length + 1) (at_r rfl) rfl ?_ | refine load_at hO (Γ.length + 2) (at_r rfl) rfl ?_ | refine load_at hO (Γ.length + 3) (at_r rfl) rfl ?_ | refine load_at hO (Γ.length + 4) (at_r rfl) rfl ?_ | refine load_at hO (Γ.length + 5) (at_r rfl) rfl ?_)
    refine store1_at hO (Γ.length + 0) (at_r rfl) rfl (show 1 < 36 by omega) (show _ = slC { s with tr := s.tr - 1 } from rfl) ?_
    intro H hO
    have hO := hO.set_r
    refine loadAll_at hO (Γ.length + 0) (at_r rfl) rfl (by omega) ?_
    refine storeAll_at hO (Γ.length + 1) (at_r rfl) rfl rfl rfl ?_
    intro H hO
    have hO := hO.set_r
    refine loadAll_at hO (Γ.length + 1) (at_r rfl) rfl (by omega) ?_
    exact hk _ hO.left
end
end B
