import Derived.Test.YtccblhllmplmaaaT5
set_option linter.unusedVariables false
set_option maxRecDepth 100000
namespace T
open Go Go.Ab
variable {H : Heap} {Γ : List (Nat × Blk)} {K : Value → Heap → Prop} {v w x : Value} {xs ys : List Int}
section
variable {s : Sl} {t : Tb}
def dgL (g : Nat → Int) : List Int := (List.range 32).map g
theorem dg_by (g : Nat → Int) : by8 (dgL g) = dgC g := rfl
def sBy (s : Sl) : List Int := leN 1 s.st.toNat ++ leN 1 s.tr.toNat ++ leN 8 s.ver.toNat ++ leN 4 s.sz.toNat ++ dgL s.dg
def sBy' (s : Sl) : List Int := if SRight s then sBy s else []
theorem SRight.nn {s : Sl} (h : SRight s) : (0 ≤ s.st ∧ s.st ≤ 4) ∧ (0 ≤ s.tr ∧ s.tr ≤ 7) ∧ (0 ≤ s.ver ∧ s.ver ≤ 281474976710656) ∧ (0 ≤ s.sz ∧ s.sz ≤ 65536) := by
  rcases h with ⟨h, h2⟩ | ⟨h, h2, h3⟩ | ⟨h, h2, h3⟩
  · obtain ⟨a, b, c, _⟩ := h2; omega
  · obtain ⟨a, b, c, d⟩ := h3; omega
  · obtain ⟨a, b, c, d⟩ := h3; omega
theorem sBy_len : (sBy s).length = 46 := by simp [sBy, leN_len, dgL]
theorem sBy'_len : (sBy' s).length ≤ 46 := by unfold sBy'; split; rw [sBy_len]; omega; simp
theorem dg_rd {p : Nat} {B : List (Nat × Blk)} : RdB (Γ ++ ((p, ⟨slC s, true⟩) :: B)) (sl p 4 32 3) (dgL s.dg) :=
  .inr ⟨p, 4, 3, rfl, .inr rfl, .inr ⟨Γ.length + 0, ⟨slC s, true⟩, at_r rfl, rfl⟩⟩
set_option maxHeartbeats 2000000 in
theorem slot_Bytes_spec (hO : St H Γ) (hk : MadeB Γ K (sBy' s)) : wCall P n_slot_Bytes [agg (slC s)] H K := by
  apply slot_Bytes_ok; unfold slot_Bytes
  refine new_at hO ?_
  intro p H hO
  refine loadAll_at hO (Γ.length + 0) (at_r rfl) rfl (by omega) ?_
  refine slot_Right_spec hO ?_
  intro H hO
  by_cases hr : SRight s
  · rw [decide_eq_true hr]
    unfold sBy' at hk
    rw [if_pos hr] at hk
    obtain ⟨n1, n2, n3, n4⟩ := hr.nn
    repeat (first | refine opP_i (bin_addi (by omega) (by omega)) ?_ | refine opP_i (bin_subi (by omega) (by omega)) ?_ | refine opP_i nilCheck_ptr ?_ | refine opP_i offPtr_ptr ?_ | refine opP_i bin_eql ?_ | refine opP_i bin_neq ?_ | refine opP_i bin_lss ?_ | refine opP_i bin_gtr ?_ | refine opP_i bin_leq ?_ | refine opP_i bin_geq ?_ | refine opP_i un_not ?_ | refine opP_i pick_true ?_ | refine opP_i pick_false ?_ | refine opP_i (pick_yes (by first | assumption | omega)) ?_ | refine opP_i (pick_no (by first | assumption | omega)) ?_ | refine opP_i (idxSl_ok (by omega) (by omega)) ?_ | refine opP_i (idxPtr_ok (by omega) (by omega)) ?_ | refine opW_i lenSl_sl ?_ | refine opW_i min_w ?_ | refine opW_i max_w ?_ | refine load_at hO 0 rfl rfl ?_ | refine load_at hO 1 rfl rfl ?_ | refine load_at hO 2 rfl rfl ?_ | refine load_at hO 3 rfl rfl ?_ | refine load_at hO 4 rfl rfl ?_ | refine load_at hO 5 rfl rfl ?_ | refine load_at hO 6 rfl rfl ?_ | refine load_at hO 7 rfl rfl ?_ | refine load_at hO 8 rfl rfl ?_ | refine load_at hO 9 rfl rfl ?_ | refine wIf_yes (by first | assumption | omega) ?_ | refine wIf_no (by first | assumption | omega) ?_ | refine wIf_t rfl ?_ | refine wIf_f rfl ?_ | refine cond_yes rfl ?_ | refine cond_no rfl ?_ | refine load_at hO (Γ.length + 0) (at_r rfl) rfl ?_ | refine load_at hO (Γ.length + 1) (at_r rfl) rfl ?_ | refine load_at hO (Γ.length + 2) (at_r rfl) rfl ?_ | refine load_at hO (Γ.length + 3) (at_r rfl) rfl ?_ | refine load_at hO (Γ.length + 4) (at_r rfl) rfl ?_ | refine load_at hO (Γ.length + 5) (at_r rfl) rfl ?_)
    refine opW_i (cvIU (by omega) (by omega)) ?_
    refine Fixed_spec (size := 1) (xs := []) hO .nil (by simp) (by omega) (by omega) ?_
    intro H2 v1 c1 hO2 h1
    replace hO2 := hO2.tail1
    repeat (first | refine opP_i (bin_addi (by omega) (by omega)) ?_ | refine opP_i (bin_subi (by omega) (by omega)) ?_ | refine opP_i nilCheck_ptr ?_ | refine opP_i offPtr_ptr ?_ | refine opP_i bin_eql ?_ | refine opP_i bin_neq ?_ | refine opP_i bin_lss ?_ | refine opP_i bin_gtr ?_ | refine opP_i bin_leq ?_ | refine opP_i bin_geq ?_ | refine opP_i un_not ?_ | refine opP_i pick_true ?_ | refine opP_i pick_false ?_ | refine opP_i (pick_yes (by first | assumption | omega)) ?_ | refine opP_i (pick_no (by first | assumption | omega)) ?_ | refine opP_i (idxSl_ok (by omega) (by omega)) ?_ | refine opP_i (idxPtr_ok (by omega) (by omega)) ?_ | refine opW_i lenSl_sl ?_ | refine opW_i min_w ?_ | refine opW_i max_w ?_ | refine load_at hO 0 rfl rfl ?_ | refine load_at hO 1 rfl rfl ?_ | refine load_at hO 2 rfl rfl ?_ | refine load_at hO 3 rfl rfl ?_ | refine load_at hO 4 rfl rfl ?_ | refine load_at hO 5 rfl rfl ?_ | refine load_at hO 6 rfl rfl ?_ | refine load_at hO 7 rfl rfl ?_ | refine load_at hO 8 rfl rfl ?_ | refine load_at hO 9 rfl rfl ?_ | refine wIf_yes (by first | assumption | omega) ?_ | refine wIf_no (by first | assumption | omega) ?_ | refine wIf_t rfl ?_ | refine wIf_f rfl ?_ | refine cond_yes rfl ?_ | refine cond_no rfl ?_)
    refine load_at hO2 (Γ.length + 0) (at_r rfl) rfl ?_
    refine ⟨same_at hO (Γ.length + 0) (at_r rfl) hO2 (Γ.length + 0) (at_r rfl) rfl, ?_⟩
    clear hO
    refine opW_i (cvIU (by omega) (by omega)) ?_
    refine Fixed_spec (size := 1) hO2 h1.rd.tl (by simp [leN_len]) (by omega) (by omega) ?_
    clear hO2
    intro H v2 c2 hO h2
    replace hO := hO.tail1
    repeat (first | refine opP_i (bin_addi (by omega) (by omega)) ?_ | refine opP_i (bin_subi (by omega) (by omega)) ?_ | refine opP_i nilCheck_ptr ?_ | refine opP_i offPtr_ptr ?_ | refine opP_i bin_eql ?_ | refine opP_i bin_neq ?_ | refine opP_i bin_lss ?_ | refine opP_i bin_gtr ?_ | refine opP_i bin_leq ?_ | refine opP_i bin_geq ?_ | refine opP_i un_not ?_ | refine opP_i pick_true ?_ | refine opP_i pick_false ?_ | refine opP_i (pick_yes (by first | assumption | omega)) ?_ | refine opP_i (pick_no (by first | assumption | omega)) ?_ | refine opP_i (idxSl_ok (by omega) (by omega)) ?_ | refine opP_i (idxPtr_ok (by omega) (by omega)) ?_ | refine opW_i lenSl_sl ?_ | refine opW_i min_w ?_ | refine opW_i max_w ?_ | refine load_at hO 0 rfl rfl ?_ | refine load_at hO 1 rfl rfl ?_ | refine load_at hO 2 rfl rfl ?_ | refine load_at hO 3 rfl rfl ?_ | refine load_at hO 4 rfl rfl ?_ | refine load_at hO 5 rfl rfl ?_ | refine load_at hO 6 rfl rfl ?_ | refine load_at hO 7 rfl rfl ?_ | refine load_at hO 8 rfl rfl ?_ | refine load_at hO 9 rfl rfl ?_ | refine wIf_yes (by first | assumption | omega) ?_ | refine wIf_no (by first | assumption | omega) ?_ | refine wIf_t rfl ?_ | refine wIf_f rfl ?_ | refine cond_yes rfl ?_ | refine cond_no rfl ?_ | refine load_at hO (Γ.length + 0) (at_r rfl) rfl ?_ | refine load_at hO (Γ.length + 1) (at_r rfl) rfl ?_ | refine load_at hO (Γ.length + 2) (at_r rfl) rfl ?_ | refine load_at hO (Γ.length + 3) (at_r rfl) rfl ?_ | refine load_at hO (Γ.length + 4) (at_r rfl) rfl ?_ | refine load_at hO (Γ.length + 5) (at_r rfl) rfl ?_)
    rw [uint_of n3.1]
    refine Fixed_spec (size := 8) hO h2.rd.tl (by simp [leN_len]) (by omega) (by omega) ?_
    intro H2 v3 c3 hO2 h3
    replace hO2 := hO2.tail1
    repeat (first | refine opP_i (bin_addi (by omega) (by omega)) ?_ | refine opP_i (bin_subi (by omega) (by omega)) ?_ | refine opP_i nilCheck_ptr ?_ | refine opP_i offPtr_ptr ?_ | refine opP_i bin_eql ?_ | refine opP_i bin_neq ?_ | refine opP_i bin_lss ?_ | refine opP_i bin_gtr ?_ | refine opP_i bin_leq ?_ | refine opP_i bin_geq ?_ | refine opP_i un_not ?_ | refine opP_i pick_true ?_ | refine opP_i pick_false ?_ | refine opP_i (pick_yes (by first | assumption | omega)) ?_ | refine opP_i (pick_no (by first | assumption | omega)) ?_ | refine opP_i (idxSl_ok (by omega) (by omega)) ?_ | refine opP_i (idxPtr_ok (by omega) (by omega)) ?_ | refine opW_i lenSl_sl ?_ | refine opW_i min_w ?_ | refine opW_i max_w ?_ | refine load_at hO 0 rfl rfl ?_ | refine load_at hO 1 rfl rfl ?_ | refine load_at hO 2 rfl rfl ?_ | refine load_at hO 3 rfl rfl ?_ | refine load_at hO 4 rfl rfl ?_ | refine load_at hO 5 rfl rfl ?_ | refine load_at hO 6 rfl rfl ?_ | refine load_at hO 7 rfl rfl ?_ | refine load_at hO 8 rfl rfl ?_ | refine load_at hO 9 rfl rfl ?_ | refine wIf_yes (by first | assumption | omega) ?_ | refine wIf_no (by first | assumption | omega) ?_ | refine wIf_t rfl ?_ | refine wIf_f rfl ?_ | refine cond_yes rfl ?_ | refine cond_no rfl ?_)
    refine load_at hO2 (Γ.length + 0) (at_r rfl) rfl ?_
    refine ⟨same_at hO (Γ.length + 0) (at_r rfl) hO2 (Γ.length + 0) (at_r rfl) rfl, ?_⟩
    clear hO
    refine opW_i (cvIU (by omega) (by omega)) ?_
    refine Fixed_spec (size := 4) hO2 h3.rd.tl (by simp [leN_len]) (by omega) (by omega) ?_
    clear hO2
    intro H v4 c4 hO h4
    replace hO := hO.tail1
    repeat (first | refine opP_i (bin_addi (by omega) (by omega)) ?_ | refine opP_i (bin_subi (by omega) (by omega)) ?_ | refine opP_i nilCheck_ptr ?_ | refine opP_i offPtr_ptr ?_ | refine opP_i bin_eql ?_ | refine opP_i bin_neq ?_ | refine opP_i bin_lss ?_ | refine opP_i bin_gtr ?_ | refine opP_i bin_leq ?_ | refine opP_i bin_geq ?_ | refine opP_i un_not ?_ | refine opP_i pick_true ?_ | refine opP_i pick_false ?_ | refine opP_i (pick_yes (by first | assumption | omega)) ?_ | refine opP_i (pick_no (by first | assumption | omega)) ?_ | refine opP_i (idxSl_ok (by omega) (by omega)) ?_ | refine opP_i (idxPtr_ok (by omega) (by omega)) ?_ | refine opW_i lenSl_sl ?_ | refine opW_i min_w ?_ | refine opW_i max_w ?_ | refine load_at hO 0 rfl rfl ?_ | refine load_at hO 1 rfl rfl ?_ | refine load_at hO 2 rfl rfl ?_ | refine load_at hO 3 rfl rfl ?_ | refine load_at hO 4 rfl rfl ?_ | refine load_at hO 5 rfl rfl ?_ | refine load_at hO 6 rfl rfl ?_ | refine load_at hO 7 rfl rfl ?_ | refine load_at hO 8 rfl rfl ?_ | refine load_at hO 9 rfl rfl ?_ | refine wIf_yes (by first | assumption | omega) ?_ | refine wIf_no (by first | assumption | omega) ?_ | refine wIf_t rfl ?_ | refine wIf_f rfl ?_ | refine cond_yes rfl ?_ | refine cond_no rfl ?_)
    refine opP_i (slice_arr hO (Γ.length + 0) (at_r rfl) (by omega) (show 4 + 32 ≤ (slC s).length from Nat.le_refl _)) ?_
    refine newSl_at hO (bs65_1 _ _ _ _) ?_
    intro q H hO
    refine Raw_spec hO h4.rd.tl.app ⟨q, 3, (Γ ++ ((p, ⟨slC s, true⟩) :: outB v4 c4)).length, true, rfl, by simp⟩ dg_rd.app (by simp [leN_len, dgL]) ?_
    intro H v5 c5 hO h5
    refine hk _ v5 c5 ?_ h5
    exact hO.sub (List.Sublist.append ((List.sublist_append_left _ _).trans (List.sublist_append_left _ _)) (List.Sublist.refl _))
  · rw [decide_eq_false hr]
    unfold sBy' at hk
    rw [if_neg hr] at hk
    repeat (first | refine opP_i (bin_addi (by omega) (by omega)) ?_ | refine opP_i (bin_subi (by omega) (by omega)) ?_ | refine opP_i nilCheck_ptr ?_ | refine opP_i offPtr_ptr ?_ | refine opP_i bin_eql ?_ | refine opP_i bin_neq ?_ | refine opP_i bin_lss ?_ | refine opP_i bin_gtr ?_ | refine opP_i bin_leq ?_ | refine opP_i bin_geq ?_ | refine opP_i un_not ?_ | refine opP_i pick_true ?_ | refine opP_i pick_false ?_ | refine opP_i (pick_yes (by first | assumption | omega)) ?_ | refine opP_i (pick_no (by first | assumption | omega)) ?_ | refine opP_i (idxSl_ok (by omega) (by omega)) ?_ | refine opP_i (idxPtr_ok (by omega) (by omega)) ?_ | refine opW_i lenSl_sl ?_ | refine opW_i min_w ?_ | refine opW_i max_w ?_ | refine load_at hO 0 rfl rfl ?_ | refine load_at hO 1 rfl rfl ?_ | refine load_at hO 2 rfl rfl ?_ | refine load_at hO 3 rfl rfl ?_ | refine load_at hO 4 rfl rfl ?_ | refine load_at hO 5 rfl rfl ?_ | refine load_at hO 6 rfl rfl ?_ | refine load_at hO 7 rfl rfl ?_ | refine load_at hO 8 rfl rfl ?_ | refine load_at hO 9 rfl rfl ?_ | refine wIf_yes (by first | assumption | omega) ?_ | refine wIf_no (by first | assumption | omega) ?_ | refine wIf_t rfl ?_ | refine wIf_f rfl ?_ | refine cond_yes rfl ?_ | refine cond_no rfl ?_ | refine load_at hO (Γ.length + 0) (at_r rfl) rfl ?_ | refine load_at hO (Γ.length + 1) (at_r rfl) rfl ?_ | refine load_at hO (Γ.length + 2) (at_r rfl) rfl ?_ | refine load_at hO (Γ.length + 3) (at_r rfl) rfl ?_ | refine load_at hO (Γ.length + 4) (at_r rfl) rfl ?_ | refine load_at hO (Γ.length + 5) (at_r rfl) rfl ?_)
    exact hk.none hO.left
set_option maxHeartbeats 2000000 in
theorem ref10_Bytes_spec (hO : St H Γ) (hk : MadeB Γ K (sBy' s)) : wCall P n_ref10_Bytes [agg (slC s)] H K := by
  apply ref10_Bytes_ok; unfold ref10_Bytes
  refine new_at hO ?_
  intro p H hO
  refine newSl_at hO (bs46_0 _) ?_
  intro r H hO
  refine loadAll_at hO (Γ.length + 0) (at_l (at_r rfl)) rfl (by omega) ?_
  refine ref10_Right_spec hO ?_
  intro H hO
  have h0 : OwnB (sl r 0 0 3) [] [] := .inr ⟨r, .inr ⟨rfl, rfl⟩, rfl, Nat.zero_le _, rfl⟩
  have hO : St H ((Γ ++ [(p, ⟨slC s, true⟩)]) ++ outB (sl r 0 0 3) []) := hO
  by_cases hr : SRight s
  · rw [decide_eq_true hr]
    unfold sBy' at hk
    rw [if_pos hr] at hk
    obtain ⟨n1, n2, n3, n4⟩ := hr.nn
    repeat (first | refine opP_i (bin_addi (by omega) (by omega)) ?_ | refine opP_i (bin_subi (by omega) (by omega)) ?_ | refine opP_i nilCheck_ptr ?_ | refine opP_i offPtr_ptr ?_ | refine opP_i bin_eql ?_ | refine opP_i bin_neq ?_ | refine opP_i bin_lss ?_ | refine opP_i bin_gtr ?_ | refine opP_i bin_leq ?_ | refine opP_i bin_geq ?_ | refine opP_i un_not ?_ | refine opP_i pick_true ?_ | refine opP_i pick_false ?_ | refine opP_i (pick_yes (by first | assumption | omega)) ?_ | refine opP_i (pick_no (by first | assumption | omega)) ?_ | refine opP_i (idxSl_ok (by omega) (by omega)) ?_ | refine opP_i (idxPtr_ok (by omega) (by omega)) ?_ | refine opW_i lenSl_sl ?_ | refine opW_i min_w ?_ | refine opW_i max_w ?_ | refine load_at hO 0 rfl rfl ?_ | refine load_at hO 1 rfl rfl ?_ | refine load_at hO 2 rfl rfl ?_ | refine load_at hO 3 rfl rfl ?_ | refine load_at hO 4 rfl rfl ?_ | refine load_at hO 5 rfl rfl ?_ | refine load_at hO 6 rfl rfl ?_ | refine load_at hO 7 rfl rfl ?_ | refine load_at hO 8 rfl rfl ?_ | refine load_at hO 9 rfl rfl ?_ | refine wIf_yes (by first | assumption | omega) ?_ | refine wIf_no (by first | assumption | omega) ?_ | refine wIf_t rfl ?_ | refine wIf_f rfl ?_ | refine cond_yes rfl ?_ | refine cond_no rfl ?_)
    refine load_at hO (Γ.length + 0) (at_l (at_r rfl)) rfl ?_
    refine opW_i (cvI8 (by omega) (by omega)) ?_
    repeat (first | refine opP_i (bin_addi (by omega) (by omega)) ?_ | refine opP_i (bin_subi (by omega) (by omega)) ?_ | refine opP_i nilCheck_ptr ?_ | refine opP_i offPtr_ptr ?_ | refine opP_i bin_eql ?_ | refine opP_i bin_neq ?_ | refine opP_i bin_lss ?_ | refine opP_i bin_gtr ?_ | refine opP_i bin_leq ?_ | refine opP_i bin_geq ?_ | refine opP_i un_not ?_ | refine opP_i pick_true ?_ | refine opP_i pick_false ?_ | refine opP_i (pick_yes (by first | assumption | omega)) ?_ | refine opP_i (pick_no (by first | assumption | omega)) ?_ | refine opP_i (idxSl_ok (by omega) (by omega)) ?_ | refine opP_i (idxPtr_ok (by omega) (by omega)) ?_ | refine opW_i lenSl_sl ?_ | refine opW_i min_w ?_ | refine opW_i max_w ?_ | refine load_at hO 0 rfl rfl ?_ | refine load_at hO 1 rfl rfl ?_ | refine load_at hO 2 rfl rfl ?_ | refine load_at hO 3 rfl rfl ?_ | refine load_at hO 4 rfl rfl ?_ | refine load_at hO 5 rfl rfl ?_ | refine load_at hO 6 rfl rfl ?_ | refine load_at hO 7 rfl rfl ?_ | refine load_at hO 8 rfl rfl ?_ | refine load_at hO 9 rfl rfl ?_ | refine wIf_yes (by first | assumption | omega) ?_ | refine wIf_no (by first | assumption | omega) ?_ | refine wIf_t rfl ?_ | refine wIf_f rfl ?_ | refine cond_yes rfl ?_ | refine cond_no rfl ?_)
    refine load_at hO (Γ.length + 0) (at_l (at_r rfl)) rfl ?_
    refine opW_i (cvI8 (by omega) (by omega)) ?_
    refine newSl_at hO (bs46_2 _ _ _ _ _) ?_
    intro q H hO
    have e1 : leN 1 s.st.toNat = [((s.st.toNat : Nat) : Int)] := by simp [leN]; omega
    have e2 : leN 1 s.tr.toNat = [((s.tr.toNat : Nat) : Int)] := by simp [leN]; omega
    refine append_new (ys := [((s.st.toNat : Nat) : Int), ((s.tr.toNat : Nat) : Int)]) hO h0 (by simp) rfl (.inr rfl) ?_
    intro H v1 c1 hO h1
    repeat (first | refine opP_i (bin_addi (by omega) (by omega)) ?_ | refine opP_i (bin_subi (by omega) (by omega)) ?_ | refine opP_i nilCheck_ptr ?_ | refine opP_i offPtr_ptr ?_ | refine opP_i bin_eql ?_ | refine opP_i bin_neq ?_ | refine opP_i bin_lss ?_ | refine opP_i bin_gtr ?_ | refine opP_i bin_leq ?_ | refine opP_i bin_geq ?_ | refine opP_i un_not ?_ | refine opP_i pick_true ?_ | refine opP_i pick_false ?_ | refine opP_i (pick_yes (by first | assumption | omega)) ?_ | refine opP_i (pick_no (by first | assumption | omega)) ?_ | refine opP_i (idxSl_ok (by omega) (by omega)) ?_ | refine opP_i (idxPtr_ok (by omega) (by omega)) ?_ | refine opW_i lenSl_sl ?_ | refine opW_i min_w ?_ | refine opW_i max_w ?_ | refine load_at hO 0 rfl rfl ?_ | refine load_at hO 1 rfl rfl ?_ | refine load_at hO 2 rfl rfl ?_ | refine load_at hO 3 rfl rfl ?_ | refine load_at hO 4 rfl rfl ?_ | refine load_at hO 5 rfl rfl ?_ | refine load_at hO 6 rfl rfl ?_ | refine load_at hO 7 rfl rfl ?_ | refine load_at hO 8 rfl rfl ?_ | refine load_at hO 9 rfl rfl ?_ | refine wIf_yes (by first | assumption | omega) ?_ | refine wIf_no (by first | assumption | omega) ?_ | refine wIf_t rfl ?_ | refine wIf_f rfl ?_ | refine cond_yes rfl ?_ | refine cond_no rfl ?_)
    refine load_at hO (Γ.length + 0) (at_l (at_r rfl)) rfl ?_
    rw [uint_of n3.1]
    refine ref05_Fixed_spec (size := 8) hO (by omega) (by omega) ?_
    intro H v2 c2 hO h2
    refine append_own2 hO h1 h2 (by simp [leN_len]) ?_
    intro H v3 c3 hO h3
    repeat (first | refine opP_i (bin_addi (by omega) (by omega)) ?_ | refine opP_i (bin_subi (by omega) (by omega)) ?_ | refine opP_i nilCheck_ptr ?_ | refine opP_i offPtr_ptr ?_ | refine opP_i bin_eql ?_ | refine opP_i bin_neq ?_ | refine opP_i bin_lss ?_ | refine opP_i bin_gtr ?_ | refine opP_i bin_leq ?_ | refine opP_i bin_geq ?_ | refine opP_i un_not ?_ | refine opP_i pick_true ?_ | refine opP_i pick_false ?_ | refine opP_i (pick_yes (by first | assumption | omega)) ?_ | refine opP_i (pick_no (by first | assumption | omega)) ?_ | refine opP_i (idxSl_ok (by omega) (by omega)) ?_ | refine opP_i (idxPtr_ok (by omega) (by omega)) ?_ | refine opW_i lenSl_sl ?_ | refine opW_i min_w ?_ | refine opW_i max_w ?_ | refine load_at hO 0 rfl rfl ?_ | refine load_at hO 1 rfl rfl ?_ | refine load_at hO 2 rfl rfl ?_ | refine load_at hO 3 rfl rfl ?_ | refine load_at hO 4 rfl rfl ?_ | refine load_at hO 5 rfl rfl ?_ | refine load_at hO 6 rfl rfl ?_ | refine load_at hO 7 rfl rfl ?_ | refine load_at hO 8 rfl rfl ?_ | refine load_at hO 9 rfl rfl ?_ | refine wIf_yes (by first | assumption | omega) ?_ | refine wIf_no (by first | assumption | omega) ?_ | refine wIf_t rfl ?_ | refine wIf_f rfl ?_ | refine cond_yes rfl ?_ | refine cond_no rfl ?_)
    refine load_at hO (Γ.length + 0) (at_l (at_r rfl)) rfl ?_
    refine opW_i (cvIU (by omega) (by omega)) ?_
    refine ref05_Fixed_spec (size := 4) hO (by omega) (by omega) ?_
    intro H v4 c4 hO h4
    refine append_own2 hO h3 h4 (by simp [leN_len]) ?_
    intro H v5 c5 hO h5
    repeat (first | refine opP_i (bin_addi (by omega) (by omega)) ?_ | refine opP_i (bin_subi (by omega) (by omega)) ?_ | refine opP_i nilCheck_ptr ?_ | refine opP_i offPtr_ptr ?_ | refine opP_i bin_eql ?_ | refine opP_i bin_neq ?_ | refine opP_i bin_lss ?_ | refine opP_i bin_gtr ?_ | refine opP_i bin_leq ?_ | refine opP_i bin_geq ?_ | refine opP_i un_not ?_ | refine opP_i pick_true ?_ | refine opP_i pick_false ?_ | refine opP_i (pick_yes (by first | assumption | omega)) ?_ | refine opP_i (pick_no (by first | assumption | omega)) ?_ | refine opP_i (idxSl_ok (by omega) (by omega)) ?_ | refine opP_i (idxPtr_ok (by omega) (by omega)) ?_ | refine opW_i lenSl_sl ?_ | refine opW_i min_w ?_ | refine opW_i max_w ?_ | refine load_at hO 0 rfl rfl ?_ | refine load_at hO 1 rfl rfl ?_ | refine load_at hO 2 rfl rfl ?_ | refine load_at hO 3 rfl rfl ?_ | refine load_at hO 4 rfl rfl ?_ | refine load_at hO 5 rfl rfl ?_ | refine load_at hO 6 rfl rfl ?_ | refine load_at hO 7 rfl rfl ?_ | refine load_at hO 8 rfl rfl ?_ | refine load_at hO 9 rfl rfl ?_ | refine wIf_yes (by first | assumption | omega) ?_ | refine wIf_no (by first | assumption | omega) ?_ | refine wIf_t rfl ?_ | refine wIf_f rfl ?_ | refine cond_yes rfl ?_ | refine cond_no rfl ?_)
    refine opP_i (slice_arr hO (Γ.length + 0) (at_l (at_r rfl)) (by omega) (show 4 + 32 ≤ (slC s).length from Nat.le_refl _)) ?_
    refine append_by hO h5 (dg_rd (B := [])) (by simp [leN_len, dgL]) ?_
    intro H v6 c6 hO h6
    refine hk _ v6 c6 (St.mid hO) ?_
    have : sBy s = [] ++ [((s.st.toNat : Nat) : Int), ((s.tr.toNat : Nat) : Int)] ++ leN 8 s.ver.toNat ++ leN 4 s.sz.toNat ++ dgL s.dg := by
      unfold sBy; rw [e1, e2]; rfl
    rw [this]; exact h6
  · rw [decide_eq_false hr]
    unfold sBy' at hk
    rw [if_neg hr] at hk
    repeat (first | refine opP_i (bin_addi (by omega) (by omega)) ?_ | refine opP_i (bin_subi (by omega) (by omega)) ?_ | refine opP_i nilCheck_ptr ?_ | refine opP_i offPtr_ptr ?_ | refine opP_i bin_eql ?_ | refine opP_i bin_neq ?_ | refine opP_i bin_lss ?_ | refine opP_i bin_gtr ?_ | refine opP_i bin_leq ?_ | refine opP_i bin_geq ?_ | refine opP_i un_not ?_ | refine opP_i pick_true ?_ | refine opP_i pick_false ?_ | refine opP_i (pick_yes (by first | assumption | omega)) ?_ | refine opP_i (pick_no (by first | assumption | omega)) ?_ | refine opP_i (idxSl_ok (by omega) (by omega)) ?_ | refine opP_i (idxPtr_ok (by omega) (by omega)) ?_ | refine opW_i lenSl_sl ?_ | refine opW_i min_w ?_ | refine opW_i max_w ?_ | refine load_at hO 0 rfl rfl ?_ | refine load_at hO 1 rfl rfl ?_ | refine load_at hO 2 rfl rfl ?_ | refine load_at hO 3 rfl rfl ?_ | refine load_at hO 4 rfl rfl ?_ | refine load_at hO 5 rfl rfl ?_ | refine load_at hO 6 rfl rfl ?_ | refine load_at hO 7 rfl rfl ?_ | refine load_at hO 8 rfl rfl ?_ | refine load_at hO 9 rfl rfl ?_ | refine wIf_yes (by first | assumption | omega) ?_ | refine wIf_no (by first | assumption | omega) ?_ | refine wIf_t rfl ?_ | refine wIf_f rfl ?_ | refine cond_yes rfl ?_ | refine cond_no rfl ?_)
    exact hk _ _ _ (St.mid hO) h0
def tBy (t : Tb) : List Int := if TRight t then sBy t.a ++ sBy t.b ++ leN 1 t.act.toNat ++ leN 1 (t.boo + 1).toNat ++ leN 8 t.flo.toNat else []
end
end T
