import Derived.Test.YtkfbmfhfbfgojaaB8
set_option linter.unusedVariables false
set_option maxRecDepth 100000
namespace B
open Go Go.Ab
variable {H : Heap} {Γ : List (Nat × Blk)} {K : Value → Heap → Prop}
section
variable {t : Tb}
theorem bs0 (H : Heap) : (buildSliceC P 31 0).f [] H = some (sl H.next 0 0 81, H.push []) := by kernel_rfl
def lA (t : Tb) : List Ch := if (t.sl t.act).st = 2 then [cSet t.act (sBad (t.sl t.act)).1] else []
def lB (t : Tb) (p : Int) : List Ch := if p ≠ t.act then lA t ++ [cAct p] else []
def lC (t : Tb) (p : Int) : List Ch := if (t.sl p).st = 2 then lB t p ++ [cSet p (sTry (t.sl p)).1] else lB t p
def tPlan (t : Tb) : List Ch := if tPick t = -1 then [] else lC t (tPick t) ++ [cBoo (tPick t)]
theorem lA_len : (lA t).length ≤ 1 := by unfold lA; split <;> simp
theorem lB_len {p : Int} : (lB t p).length ≤ 2 := by have := lA_len (t := t); unfold lB; split <;> simp; omega
theorem lC_len {p : Int} : (lC t p).length ≤ 3 := by have := lB_len (t := t) (p := p); unfold lC; split <;> simp <;> omega
theorem tPlan_len : (tPlan t).length ≤ 4 := by have := lC_len (t := t) (p := tPick t); unfold tPlan; split <;> simp; omega
theorem pick_ix (h : tPick t ≠ -1) : TRight t ∧ Ix (tPick t) := by
  unfold tPick at *
  by_cases hr : TRight t
  · rw [if_pos hr] at *
    refine ⟨hr, ?_⟩
    have := hr.2.2.1
    unfold vPick at *
    split
    · exact this
    · split
      · exact this.flip
      · rename_i h1 h2; rw [if_neg h1, if_neg h2] at h; exact absurd rfl h
  · rw [if_neg hr] at h; exact absurd rfl h
/-- a slot, a list of changes that was made -/
abbrev MadeP (Γ : List (Nat × Blk)) (K : Value → Heap → Prop) (p : Int) (l : List Ch) : Prop := ∀ (H' : Heap) (v : Value), St H' (Γ ++ outB v (chs l)) → Own 40 v l.length (chs l) → K (.tuple [int p, v].toArray) H'
/-- appended to nothing -/
theorem append_nil_ch {c : Ch} {q : Nat} (hO : St H (Γ ++ [(q, ⟨chC c, true⟩)]))
    (hk : ∀ H' v', St H' (Γ ++ outB v' (chs [c])) → Own 40 v' [c].length (chs [c]) → K v' H') : opW (appendWith 40 96 nilSl (sl q 0 1 81) H) K :=
  append_ch (l := []) (by rw [show outB nilSl (chs []) = [] from rfl, List.append_nil]; exact hO) Own.nil (by simp) hk
theorem boot_Plan_spec (hO : St H Γ) (hk : MadeP Γ K (tPick t) (tPlan t)) : wCall P n_boot_Plan [agg (tbC t)] H K := by
  apply boot_Plan_ok; unfold boot_Plan
  refine new_at hO ?_
  intro p H hO
  refine loadAll_at hO (Γ.length + 0) (at_r rfl) rfl (by omega) ?_
  refine boot_look_spec hO ?_
  intro H hO
  refine opP_i ext0 ?_
  refine opP_i ext1 ?_
  rw [zc60]
  refine new_at hO ?_
  intro q H hO
  rw [List.append_assoc] at hO
  refine storeAll_at hO (Γ.length + 1) (at_r rfl) rfl rfl rfl ?_
  intro H hO
  have hO : St H (Γ ++ [(p, ⟨tbC t, true⟩), (q, ⟨tbC t, true⟩)]) := hO.set_r
  refine join_with (fun l' H' => l' = [ptr q 0, int (tPick t)] ∧ St H' (Γ ++ [(p, ⟨tbC t, true⟩), (q, ⟨tbC t, true⟩)])) ?_ ?_
  · by_cases h : TRight t
    · rw [decide_eq_true h, wIf_true]
      refine loadAll_at hO (Γ.length + 1) (at_r rfl) rfl (by omega) ?_
      refine boot_pick_spec hO h.2.2.1 ?_
      intro H hO
      rw [show tPick t = vPick t from if_pos h]
      exact ⟨rfl, hO⟩
    · rw [decide_eq_false h, wIf_false, show tPick t = -1 from if_neg h]
      exact ⟨rfl, hO⟩
  clear hO
  rintro l' H ⟨rfl, hO⟩
  try simp only [nth_zero, nth_succ]
  repeat (first | refine opP_i (bin_addi (by omega) (by omega)) ?_ | refine opP_i (bin_subi (by omega) (by omega)) ?_ | refine opP_i nilCheck_ptr ?_ | refine opP_i offPtr_ptr ?_ | refine opP_i bin_eql ?_ | refine opP_i bin_neq ?_ | refine opP_i bin_lss ?_ | refine opP_i bin_gtr ?_ | refine opP_i bin_leq ?_ | refine opP_i bin_geq ?_ | refine opP_i un_not ?_ | refine opP_i pick_true ?_ | refine opP_i pick_false ?_ | refine opP_i (pick_yes (by first | assumption | omega)) ?_ | refine opP_i (pick_no (by first | assumption | omega)) ?_ | refine opP_i (idxSl_ok (by omega) (by omega)) ?_ | refine opP_i (idxPtr_ok (by omega) (by omega)) ?_ | refine opW_i lenSl_sl ?_ | refine opW_i min_w ?_ | refine opW_i max_w ?_ | refine load_at hO 0 rfl rfl ?_ | refine load_at hO 1 rfl rfl ?_ | refine load_at hO 2 rfl rfl ?_ | refine load_at hO 3 rfl rfl ?_ | refine load_at hO 4 rfl rfl ?_ | refine load_at hO 5 rfl rfl ?_ | refine load_at hO 6 rfl rfl ?_ | refine load_at hO 7 rfl rfl ?_ | refine load_at hO 8 rfl rfl ?_ | refine load_at hO 9 rfl rfl ?_ | refine wIf_yes (by first | assumption | omega) ?_ | refine wIf_no (by first | assumption | omega) ?_ | refine wIf_t rfl ?_ | refine wIf_f rfl ?_ | refine cond_yes rfl ?_ | refine cond_no rfl ?_)
  refine wIf_dec (fun h => ?_) (fun h => ?_)
  · unfold tPlan at hk
    rw [if_pos h, h] at hk
    exact hk _ nilSl (by show St H (Γ ++ []); rw [List.append_nil]; exact hO.left) Own.nil
  unfold tPlan at hk
  rw [if_neg h] at hk
  obtain ⟨hr, hp⟩ := pick_ix h
  have ha := hr.2.2.1
  have hab := ha.bd
  have hpb := hp.bd
  generalize tPick t = x at *
  refine join_with (fun l' H' => ∃ v, l' = [ptr q 0, int x, v] ∧ Own 40 v (lB t x).length (chs (lB t x)) ∧ St H' ((Γ ++ [(p, ⟨tbC t, true⟩), (q, ⟨tbC t, true⟩)]) ++ outB v (chs (lB t x)))) ?_ ?_
  · repeat (first | refine opP_i (bin_addi (by omega) (by omega)) ?_ | refine opP_i (bin_subi (by omega) (by omega)) ?_ | refine opP_i nilCheck_ptr ?_ | refine opP_i offPtr_ptr ?_ | refine opP_i bin_eql ?_ | refine opP_i bin_neq ?_ | refine opP_i bin_lss ?_ | refine opP_i bin_gtr ?_ | refine opP_i bin_leq ?_ | refine opP_i bin_geq ?_ | refine opP_i un_not ?_ | refine opP_i pick_true ?_ | refine opP_i pick_false ?_ | refine opP_i (pick_yes (by first | assumption | omega)) ?_ | refine opP_i (pick_no (by first | assumption | omega)) ?_ | refine opP_i (idxSl_ok (by omega) (by omega)) ?_ | refine opP_i (idxPtr_ok (by omega) (by omega)) ?_ | refine opW_i lenSl_sl ?_ | refine opW_i min_w ?_ | refine opW_i max_w ?_ | refine load_at hO 0 rfl rfl ?_ | refine load_at hO 1 rfl rfl ?_ | refine load_at hO 2 rfl rfl ?_ | refine load_at hO 3 rfl rfl ?_ | refine load_at hO 4 rfl rfl ?_ | refine load_at hO 5 rfl rfl ?_ | refine load_at hO 6 rfl rfl ?_ | refine load_at hO 7 rfl rfl ?_ | refine load_at hO 8 rfl rfl ?_ | refine load_at hO 9 rfl rfl ?_ | refine wIf_yes (by first | assumption | omega) ?_ | refine wIf_no (by first | assumption | omega) ?_ | refine wIf_t rfl ?_ | refine wIf_f rfl ?_ | refine cond_yes rfl ?_ | refine cond_no rfl ?_ | refine load_at hO (Γ.length + 0) (at_r rfl) rfl ?_ | refine load_at hO (Γ.length + 1) (at_r rfl) rfl ?_ | refine load_at hO (Γ.length + 2) (at_r rfl) rfl ?_ | refine load_at hO (Γ.length + 3) (at_r rfl) rfl ?_ | refine load_at hO (Γ.length + 4) (at_r rfl) rfl ?_ | refine load_at hO (Γ.length + 5) (at_r rfl) rfl ?_)
    refine wIf_dec (fun h1 => ?_) (fun h1 => ?_)
    · unfold lB
      rw [if_pos h1]
      refine join_with (fun l' H' => ∃ v, l' = [ptr q 0, int x, v] ∧ Own 40 v (lA t).length (chs (lA t)) ∧ St H' ((Γ ++ [(p, ⟨tbC t, true⟩), (q, ⟨tbC t, true⟩)]) ++ outB v (chs (lA t)))) ?_ ?_
      · refine loadAll_at hO (Γ.length + 1) (at_r rfl) rfl (by omega) ?_
        repeat (first | refine opP_i (bin_addi (by omega) (by omega)) ?_ | refine opP_i (bin_subi (by omega) (by omega)) ?_ | refine opP_i nilCheck_ptr ?_ | refine opP_i offPtr_ptr ?_ | refine opP_i bin_eql ?_ | refine opP_i bin_neq ?_ | refine opP_i bin_lss ?_ | refine opP_i bin_gtr ?_ | refine opP_i bin_leq ?_ | refine opP_i bin_geq ?_ | refine opP_i un_not ?_ | refine opP_i pick_true ?_ | refine opP_i pick_false ?_ | refine opP_i (pick_yes (by first | assumption | omega)) ?_ | refine opP_i (pick_no (by first | assumption | omega)) ?_ | refine opP_i (idxSl_ok (by omega) (by omega)) ?_ | refine opP_i (idxPtr_ok (by omega) (by omega)) ?_ | refine opW_i lenSl_sl ?_ | refine opW_i min_w ?_ | refine opW_i max_w ?_ | refine load_at hO 0 rfl rfl ?_ | refine load_at hO 1 rfl rfl ?_ | refine load_at hO 2 rfl rfl ?_ | refine load_at hO 3 rfl rfl ?_ | refine load_at hO 4 rfl rfl ?_ | refine load_at hO 5 rfl rfl ?_ | refine load_at hO 6 rfl rfl ?_ | refine load_at hO 7 rfl rfl ?_ | refine load_at hO 8 rfl rfl ?_ | refine load_at hO 9 rfl rfl ?_ | refine wIf_yes (by first | assumption | omega) ?_ | refine wIf_no (by first | assumption | omega) ?_ | refine wIf_t rfl ?_ | refine wIf_f rfl ?_ | refine cond_yes rfl ?_ | refine cond_no rfl ?_ | refine load_at hO (Γ.length + 0) (at_r rfl) rfl ?_ | refine load_at hO (Γ.length + 1) (at_r rfl) rfl ?_ | refine load_at hO (Γ.length + 2) (at_r rfl) rfl ?_ | refine load_at hO (Γ.length + 3) (at_r rfl) rfl ?_ | refine load_at hO (Γ.length + 4) (at_r rfl) rfl ?_ | refine load_at hO (Γ.length + 5) (at_r rfl) rfl ?_)
        refine boot_is_spec hO ha ?_
        intro H hO
        refine wIf_dec (fun h2 => ?_) (fun h2 => ?_)
        · unfold lA
          rw [if_pos h2]
          repeat (first | refine opP_i (bin_addi (by omega) (by omega)) ?_ | refine opP_i (bin_subi (by omega) (by omega)) ?_ | refine opP_i nilCheck_ptr ?_ | refine opP_i offPtr_ptr ?_ | refine opP_i bin_eql ?_ | refine opP_i bin_neq ?_ | refine opP_i bin_lss ?_ | refine opP_i bin_gtr ?_ | refine opP_i bin_leq ?_ | refine opP_i bin_geq ?_ | refine opP_i un_not ?_ | refine opP_i pick_true ?_ | refine opP_i pick_false ?_ | refine opP_i (pick_yes (by first | assumption | omega)) ?_ | refine opP_i (pick_no (by first | assumption | omega)) ?_ | refine opP_i (idxSl_ok (by omega) (by omega)) ?_ | refine opP_i (idxPtr_ok (by omega) (by omega)) ?_ | refine opW_i lenSl_sl ?_ | refine opW_i min_w ?_ | refine opW_i max_w ?_ | refine load_at hO 0 rfl rfl ?_ | refine load_at hO 1 rfl rfl ?_ | refine load_at hO 2 rfl rfl ?_ | refine load_at hO 3 rfl rfl ?_ | refine load_at hO 4 rfl rfl ?_ | refine load_at hO 5 rfl rfl ?_ | refine load_at hO 6 rfl rfl ?_ | refine load_at hO 7 rfl rfl ?_ | refine load_at hO 8 rfl rfl ?_ | refine load_at hO 9 rfl rfl ?_ | refine wIf_yes (by first | assumption | omega) ?_ | refine wIf_no (by first | assumption | omega) ?_ | refine wIf_t rfl ?_ | refine wIf_f rfl ?_ | refine cond_yes rfl ?_ | refine cond_no rfl ?_ | refine load_at hO (Γ.length + 0) (at_r rfl) rfl ?_ | refine load_at hO (Γ.length + 1) (at_r rfl) rfl ?_ | refine load_at hO (Γ.length + 2) (at_r rfl) rfl ?_ | refine load_at hO (Γ.length + 3) (at_r rfl) rfl ?_ | refine load_at hO (Γ.length + 4) (at_r rfl) rfl ?_ | refine load_at hO (Γ.length + 5) (at_r rfl) rfl ?_)
          refine load_slot (t := t) (x := t.act) hO (Γ.length + 1) (at_r rfl) ha (by omega) ?_
          refine slot_Bad_spec hO ?_
          intro H hO
          generalize sBad (t.sl t.act) = r at *
          obtain ⟨s', e⟩ := r
          refine opP_i ext0 ?_
          refine opP_i ext1 ?_
          rw [zc26]
          refine new_at hO ?_
          intro q2 H hO
          rw [List.append_assoc] at hO
          refine storeAll_at hO (Γ.length + 2) (at_r rfl) rfl rfl rfl ?_
          intro H hO
          have hO := hO.set_r
          repeat (first | refine opP_i (bin_addi (by omega) (by omega)) ?_ | refine opP_i (bin_subi (by omega) (by omega)) ?_ | refine opP_i nilCheck_ptr ?_ | refine opP_i offPtr_ptr ?_ | refine opP_i bin_eql ?_ | refine opP_i bin_neq ?_ | refine opP_i bin_lss ?_ | refine opP_i bin_gtr ?_ | refine opP_i bin_leq ?_ | refine opP_i bin_geq ?_ | refine opP_i un_not ?_ | refine opP_i pick_true ?_ | refine opP_i pick_false ?_ | refine opP_i (pick_yes (by first | assumption | omega)) ?_ | refine opP_i (pick_no (by first | assumption | omega)) ?_ | refine opP_i (idxSl_ok (by omega) (by omega)) ?_ | refine opP_i (idxPtr_ok (by omega) (by omega)) ?_ | refine opW_i lenSl_sl ?_ | refine opW_i min_w ?_ | refine opW_i max_w ?_ | refine load_at hO 0 rfl rfl ?_ | refine load_at hO 1 rfl rfl ?_ | refine load_at hO 2 rfl rfl ?_ | refine load_at hO 3 rfl rfl ?_ | refine load_at hO 4 rfl rfl ?_ | refine load_at hO 5 rfl rfl ?_ | refine load_at hO 6 rfl rfl ?_ | refine load_at hO 7 rfl rfl ?_ | refine load_at hO 8 rfl rfl ?_ | refine load_at hO 9 rfl rfl ?_ | refine wIf_yes (by first | assumption | omega) ?_ | refine wIf_no (by first | assumption | omega) ?_ | refine wIf_t rfl ?_ | refine wIf_f rfl ?_ | refine cond_yes rfl ?_ | refine cond_no rfl ?_ | refine load_at hO (Γ.length + 0) (at_r rfl) rfl ?_ | refine load_at hO (Γ.length + 1) (at_r rfl) rfl ?_ | refine load_at hO (Γ.length + 2) (at_r rfl) rfl ?_ | refine load_at hO (Γ.length + 3) (at_r rfl) rfl ?_ | refine load_at hO (Γ.length + 4) (at_r rfl) rfl ?_ | refine load_at hO (Γ.length + 5) (at_r rfl) rfl ?_)
          refine loadAll_at hO (Γ.length + 2) (at_r rfl) rfl (by omega) ?_
          refine boot_set_spec hO ?_
          intro H hO
          refine newSl_at hO (bs1 _ _) ?_
          intro q3 H hO
          refine append_nil_ch hO ?_
          intro H v hO hown
          refine ⟨v, rfl, hown, ?_⟩
          have hO : St H (((Γ ++ [(p, ⟨tbC t, true⟩), (q, ⟨tbC t, true⟩)]) ++ [(q2, ⟨slC s', true⟩)]) ++ outB v (chs [cSet t.act s'])) := by rw [List.append_assoc Γ]; exact hO
          exact St.mid hO
        · unfold lA
          rw [if_neg h2]
          exact ⟨nilSl, rfl, Own.nil, by rw [show outB nilSl (chs []) = [] from rfl, List.append_nil]; exact hO⟩
      clear hO
      rintro l' H ⟨v, rfl, hown, hO⟩
      try simp only [nth_zero, nth_succ]
      refine boot_active_spec hO ?_
      intro H hO
      refine newSl_at hO (bs1 _ _) ?_
      intro q4 H hO
      refine append_ch hO hown (by have := lA_len (t := t); omega) ?_
      intro H v hO hown
      exact ⟨v, rfl, hown, hO⟩
    · unfold lB
      rw [if_neg h1]
      exact ⟨nilSl, rfl, Own.nil, by rw [show outB nilSl (chs []) = [] from rfl, List.append_nil]; exact hO⟩
  clear hO
  rintro l' H ⟨v, rfl, hown, hO⟩
  try simp only [nth_zero, nth_succ]
  refine join_with (fun l' H' => ∃ v, l' = [int x, v] ∧ Own 40 v (lC t x).length (chs (lC t x)) ∧ St H' ((Γ ++ [(p, ⟨tbC t, true⟩), (q, ⟨tbC t, true⟩)]) ++ outB v (chs (lC t x)))) ?_ ?_
  · refine loadAll_at hO (Γ.length + 1) (at_l (at_r rfl)) rfl (by omega) ?_
    refine boot_is_spec hO hp ?_
    intro H hO
    refine wIf_dec (fun h2 => ?_) (fun h2 => ?_)
    · unfold lC
      rw [if_pos h2]
      repeat (first | refine opP_i (bin_addi (by omega) (by omega)) ?_ | refine opP_i (bin_subi (by omega) (by omega)) ?_ | refine opP_i nilCheck_ptr ?_ | refine opP_i offPtr_ptr ?_ | refine opP_i bin_eql ?_ | refine opP_i bin_neq ?_ | refine opP_i bin_lss ?_ | refine opP_i bin_gtr ?_ | refine opP_i bin_leq ?_ | refine opP_i bin_geq ?_ | refine opP_i un_not ?_ | refine opP_i pick_true ?_ | refine opP_i pick_false ?_ | refine opP_i (pick_yes (by first | assumption | omega)) ?_ | refine opP_i (pick_no (by first | assumption | omega)) ?_ | refine opP_i (idxSl_ok (by omega) (by omega)) ?_ | refine opP_i (idxPtr_ok (by omega) (by omega)) ?_ | refine opW_i lenSl_sl ?_ | refine opW_i min_w ?_ | refine opW_i max_w ?_ | refine load_at hO 0 rfl rfl ?_ | refine load_at hO 1 rfl rfl ?_ | refine load_at hO 2 rfl rfl ?_ | refine load_at hO 3 rfl rfl ?_ | refine load_at hO 4 rfl rfl ?_ | refine load_at hO 5 rfl rfl ?_ | refine load_at hO 6 rfl rfl ?_ | refine load_at hO 7 rfl rfl ?_ | refine load_at hO 8 rfl rfl ?_ | refine load_at hO 9 rfl rfl ?_ | refine wIf_yes (by first | assumption | omega) ?_ | refine wIf_no (by first | assumption | omega) ?_ | refine wIf_t rfl ?_ | refine wIf_f rfl ?_ | refine cond_yes rfl ?_ | refine cond_no rfl ?_)
      refine load_slot (t := t) (x := x) hO (Γ.length + 1) (at_l (at_r rfl)) hp (by omega) ?_
      refine slot_Try_spec hO ?_
      intro H hO
      generalize sTry (t.sl x) = r at *
      obtain ⟨s', e⟩ := r
      refine opP_i ext0 ?_
      refine opP_i ext1 ?_
      rw [zc26]
      refine new_at hO ?_
      intro q2 H hO
      refine storeAll_at hO (((Γ ++ [(p, (⟨tbC t, true⟩ : Blk)), (q, ⟨tbC t, true⟩)]) ++ outB v (chs (lB t x))).length + 0) (at_r rfl) rfl rfl rfl ?_
      intro H hO
      have hO := hO.set_r
      refine loadAll_at hO (((Γ ++ [(p, (⟨tbC t, true⟩ : Blk)), (q, ⟨tbC t, true⟩)]) ++ outB v (chs (lB t x))).length + 0) (at_r rfl) rfl (by omega) ?_
      refine boot_set_spec hO ?_
      intro H hO
      refine newSl_at hO (bs1 _ _) ?_
      intro q3 H hO
      refine append_ch (St.mid hO) hown (by have := lB_len (t := t) (p := x); omega) ?_
      intro H v hO hown
      exact ⟨v, rfl, hown, hO⟩
    · unfold lC
      rw [if_neg h2]
      exact ⟨v, rfl, hown, hO⟩
  clear hO
  rintro l' H ⟨v, rfl, hown, hO⟩
  try simp only [nth_zero, nth_succ]
  refine opP_i (b58b x) ?_
  refine newSl_at hO (bs1 _ _) ?_
  intro q3 H hO
  refine append_ch hO hown (by have := lC_len (t := t) (p := x); omega) ?_
  intro H v hO hown
  exact hk _ v (St.mid hO) hown
theorem sBad_ok {s : Sl} (h : SRight s) (h2 : s.st = 2) : (sBad s).2 = 0 := by unfold sBad; rw [if_pos ⟨h, .inl h2⟩]
theorem TRight.sl {i : Int} (h : TRight t) : SRight (t.sl i) := by unfold Tb.sl; split; exact h.1; exact h.2.1
theorem ref12_Plan_spec (hO : St H Γ) (hk : MadeP Γ K (tPick t) (tPlan t)) : wCall P n_ref12_Plan [agg (tbC t)] H K := by
  apply ref12_Plan_ok; unfold ref12_Plan
  refine new_at hO ?_
  intro p H hO
  refine loadAll_at hO (Γ.length + 0) (at_r rfl) rfl (by omega) ?_
  refine ref12_Pick_spec hO ?_
  intro H hO
  refine newSl_at hO (bs0 _) ?_
  intro p0 H hO
  have own0 : Own 40 (sl p0 0 0 81) ([] : List Ch).length (chs []) := .inr ⟨p0, .inr rfl, rfl⟩
  have hO : St H ((Γ ++ [(p, ⟨tbC t, true⟩)]) ++ outB (sl p0 0 0 81) (chs [])) := hO
  repeat (first | refine opP_i (bin_addi (by omega) (by omega)) ?_ | refine opP_i (bin_subi (by omega) (by omega)) ?_ | refine opP_i nilCheck_ptr ?_ | refine opP_i offPtr_ptr ?_ | refine opP_i bin_eql ?_ | refine opP_i bin_neq ?_ | refine opP_i bin_lss ?_ | refine opP_i bin_gtr ?_ | refine opP_i bin_leq ?_ | refine opP_i bin_geq ?_ | refine opP_i un_not ?_ | refine opP_i pick_true ?_ | refine opP_i pick_false ?_ | refine opP_i (pick_yes (by first | assumption | omega)) ?_ | refine opP_i (pick_no (by first | assumption | omega)) ?_ | refine opP_i (idxSl_ok (by omega) (by omega)) ?_ | refine opP_i (idxPtr_ok (by omega) (by omega)) ?_ | refine opW_i lenSl_sl ?_ | refine opW_i min_w ?_ | refine opW_i max_w ?_ | refine load_at hO 0 rfl rfl ?_ | refine load_at hO 1 rfl rfl ?_ | refine load_at hO 2 rfl rfl ?_ | refine load_at hO 3 rfl rfl ?_ | refine load_at hO 4 rfl rfl ?_ | refine load_at hO 5 rfl rfl ?_ | refine load_at hO 6 rfl rfl ?_ | refine load_at hO 7 rfl rfl ?_ | refine load_at hO 8 rfl rfl ?_ | refine load_at hO 9 rfl rfl ?_ | refine wIf_yes (by first | assumption | omega) ?_ | refine wIf_no (by first | assumption | omega) ?_ | refine wIf_t rfl ?_ | refine wIf_f rfl ?_ | refine cond_yes rfl ?_ | refine cond_no rfl ?_)
  refine wIf_dec (fun h => ?_) (fun h => ?_)
  · unfold tPlan at hk
    rw [if_pos h, h] at hk
    rw [h]
    exact hk _ _ (St.mid hO) own0
  unfold tPlan at hk
  rw [if_neg h] at hk
  obtain ⟨hr, hp⟩ := pick_ix h
  have ha := hr.2.2.1
  have hab := ha.bd
  have hpb := hp.bd
  generalize tPick t = x at *
  refine join_with (fun l' H' => ∃ v, l' = [ptr p 0, int x, v] ∧ Own 40 v (lB t x).length (chs (lB t x)) ∧ St H' ((Γ ++ [(p, ⟨tbC t, true⟩)]) ++ outB v (chs (lB t x)))) ?_ ?_
  · repeat (first | refine opP_i (bin_addi (by omega) (by omega)) ?_ | refine opP_i (bin_subi (by omega) (by omega)) ?_ | refine opP_i nilCheck_ptr ?_ | refine opP_i offPtr_ptr ?_ | refine opP_i bin_eql ?_ | refine opP_i bin_neq ?_ | refine opP_i bin_lss ?_ | refine opP_i bin_gtr ?_ | refine opP_i bin_leq ?_ | refine opP_i bin_geq ?_ | refine opP_i un_not ?_ | refine opP_i pick_true ?_ | refine opP_i pick_false ?_ | refine opP_i (pick_yes (by first | assumption | omega)) ?_ | refine opP_i (pick_no (by first | assumption | omega)) ?_ | refine opP_i (idxSl_ok (by omega) (by omega)) ?_ | refine opP_i (idxPtr_ok (by omega) (by omega)) ?_ | refine opW_i lenSl_sl ?_ | refine opW_i min_w ?_ | refine opW_i max_w ?_ | refine load_at hO 0 rfl rfl ?_ | refine load_at hO 1 rfl rfl ?_ | refine load_at hO 2 rfl rfl ?_ | refine load_at hO 3 rfl rfl ?_ | refine load_at hO 4 rfl rfl ?_ | refine load_at hO 5 rfl rfl ?_ | refine load_at hO 6 rfl rfl ?_ | refine load_at hO 7 rfl rfl ?_ | refine load_at hO 8 rfl rfl ?_ | refine load_at hO 9 rfl rfl ?_ | refine wIf_yes (by first | assumption | omega) ?_ | refine wIf_no (by first | assumption | omega) ?_ | refine wIf_t rfl ?_ | refine wIf_f rfl ?_ | refine cond_yes rfl ?_ | refine cond_no rfl ?_)
    refine load_at hO (Γ.length + 0) (at_l (at_r rfl)) rfl ?_
    repeat (first | refine opP_i (bin_addi (by omega) (by omega)) ?_ | refine opP_i (bin_subi (by omega) (by omega)) ?_ | refine opP_i nilCheck_ptr ?_ | refine opP_i offPtr_ptr ?_ | refine opP_i bin_eql ?_ | refine opP_i bin_neq ?_ | refine opP_i bin_lss ?_ | refine opP_i bin_gtr ?_ | refine opP_i bin_leq ?_ | refine opP_i bin_geq ?_ | refine opP_i un_not ?_ | refine opP_i pick_true ?_ | refine opP_i pick_false ?_ | refine opP_i (pick_yes (by first | assumption | omega)) ?_ | refine opP_i (pick_no (by first | assumption | omega)) ?_ | refine opP_i (idxSl_ok (by omega) (by omega)) ?_ | refine opP_i (idxPtr_ok (by omega) (by omega)) ?_ | refine opW_i lenSl_sl ?_ | refine opW_i min_w ?_ | refine opW_i max_w ?_ | refine load_at hO 0 rfl rfl ?_ | refine load_at hO 1 rfl rfl ?_ | refine load_at hO 2 rfl rfl ?_ | refine load_at hO 3 rfl rfl ?_ | refine load_at hO 4 rfl rfl ?_ | refine load_at hO 5 rfl rfl ?_ | refine load_at hO 6 rfl rfl ?_ | refine load_at hO 7 rfl rfl ?_ | refine load_at hO 8 rfl rfl ?_ | refine load_at hO 9 rfl rfl ?_ | refine wIf_yes (by first | assumption | omega) ?_ | refine wIf_no (by first | assumption | omega) ?_ | refine wIf_t rfl ?_ | refine wIf_f rfl ?_ | refine cond_yes rfl ?_ | refine cond_no rfl ?_)
    refine wIf_dec (fun h1 => ?_) (fun h1 => ?_)
    · unfold lB
      rw [if_pos h1]
      repeat (first | refine opP_i (bin_addi (by omega) (by omega)) ?_ | refine opP_i (bin_subi (by omega) (by omega)) ?_ | refine opP_i nilCheck_ptr ?_ | refine opP_i offPtr_ptr ?_ | refine opP_i bin_eql ?_ | refine opP_i bin_neq ?_ | refine opP_i bin_lss ?_ | refine opP_i bin_gtr ?_ | refine opP_i bin_leq ?_ | refine opP_i bin_geq ?_ | refine opP_i un_not ?_ | refine opP_i pick_true ?_ | refine opP_i pick_false ?_ | refine opP_i (pick_yes (by first | assumption | omega)) ?_ | refine opP_i (pick_no (by first | assumption | omega)) ?_ | refine opP_i (idxSl_ok (by omega) (by omega)) ?_ | refine opP_i (idxPtr_ok (by omega) (by omega)) ?_ | refine opW_i lenSl_sl ?_ | refine opW_i min_w ?_ | refine opW_i max_w ?_ | refine load_at hO 0 rfl rfl ?_ | refine load_at hO 1 rfl rfl ?_ | refine load_at hO 2 rfl rfl ?_ | refine load_at hO 3 rfl rfl ?_ | refine load_at hO 4 rfl rfl ?_ | refine load_at hO 5 rfl rfl ?_ | refine load_at hO 6 rfl rfl ?_ | refine load_at hO 7 rfl rfl ?_ | refine load_at hO 8 rfl rfl ?_ | refine load_at hO 9 rfl rfl ?_ | refine wIf_yes (by first | assumption | omega) ?_ | refine wIf_no (by first | assumption | omega) ?_ | refine wIf_t rfl ?_ | refine wIf_f rfl ?_ | refine cond_yes rfl ?_ | refine cond_no rfl ?_)
      refine load_at hO (Γ.length + 0) (at_l (at_r rfl)) rfl ?_
      repeat (first | refine opP_i (bin_addi (by omega) (by omega)) ?_ | refine opP_i (bin_subi (by omega) (by omega)) ?_ | refine opP_i nilCheck_ptr ?_ | refine opP_i offPtr_ptr ?_ | refine opP_i bin_eql ?_ | refine opP_i bin_neq ?_ | refine opP_i bin_lss ?_ | refine opP_i bin_gtr ?_ | refine opP_i bin_leq ?_ | refine opP_i bin_geq ?_ | refine opP_i un_not ?_ | refine opP_i pick_true ?_ | refine opP_i pick_false ?_ | refine opP_i (pick_yes (by first | assumption | omega)) ?_ | refine opP_i (pick_no (by first | assumption | omega)) ?_ | refine opP_i (idxSl_ok (by omega) (by omega)) ?_ | refine opP_i (idxPtr_ok (by omega) (by omega)) ?_ | refine opW_i lenSl_sl ?_ | refine opW_i min_w ?_ | refine opW_i max_w ?_ | refine load_at hO 0 rfl rfl ?_ | refine load_at hO 1 rfl rfl ?_ | refine load_at hO 2 rfl rfl ?_ | refine load_at hO 3 rfl rfl ?_ | refine load_at hO 4 rfl rfl ?_ | refine load_at hO 5 rfl rfl ?_ | refine load_at hO 6 rfl rfl ?_ | refine load_at hO 7 rfl rfl ?_ | refine load_at hO 8 rfl rfl ?_ | refine load_at hO 9 rfl rfl ?_ | refine wIf_yes (by first | assumption | omega) ?_ | refine wIf_no (by first | assumption | omega) ?_ | refine wIf_t rfl ?_ | refine wIf_f rfl ?_ | refine cond_yes rfl ?_ | refine cond_no rfl ?_)
      refine load_slot (t := t) (x := t.act) hO (Γ.length + 0) (at_l (at_r rfl)) ha (by omega) ?_
      refine ref10_Bad_spec hO ?_
      intro H hO
      have hz : (t.sl t.act).st = 2 → (sBad (t.sl t.act)).2 = 0 := sBad_ok hr.sl
      have hlA : lA t = if (t.sl t.act).st = 2 then [cSet t.act (sBad (t.sl t.act)).1] else [] := rfl
      generalize sBad (t.sl t.act) = r at *
      obtain ⟨s', e⟩ := r
      refine opP_i ext0 ?_
      refine opP_i ext1 ?_
      rw [zc26]
      refine new_at hO ?_
      intro q2 H hO
      refine storeAll_at hO (((Γ ++ [(p, (⟨tbC t, true⟩ : Blk))]) ++ outB (sl p0 0 0 81) (chs [])).length + 0) (at_r rfl) rfl rfl rfl ?_
      intro H hO
      have hO := hO.set_r
      refine join_with (fun l' H' => ∃ v, l' = [ptr p 0, int x, v] ∧ Own 40 v (lA t).length (chs (lA t)) ∧ St H' ((Γ ++ [(p, ⟨tbC t, true⟩)]) ++ outB v (chs (lA t)))) ?_ ?_
      · refine join_with (fun l' H' => l' = [ptr p 0, int x, sl p0 0 0 81, ptr q2 0, .bool (decide ((t.sl t.act).st = 2))] ∧ H' = H) ?_ ?_
        · repeat (first | refine opP_i (bin_addi (by omega) (by omega)) ?_ | refine opP_i (bin_subi (by omega) (by omega)) ?_ | refine opP_i nilCheck_ptr ?_ | refine opP_i offPtr_ptr ?_ | refine opP_i bin_eql ?_ | refine opP_i bin_neq ?_ | refine opP_i bin_lss ?_ | refine opP_i bin_gtr ?_ | refine opP_i bin_leq ?_ | refine opP_i bin_geq ?_ | refine opP_i un_not ?_ | refine opP_i pick_true ?_ | refine opP_i pick_false ?_ | refine opP_i (pick_yes (by first | assumption | omega)) ?_ | refine opP_i (pick_no (by first | assumption | omega)) ?_ | refine opP_i (idxSl_ok (by omega) (by omega)) ?_ | refine opP_i (idxPtr_ok (by omega) (by omega)) ?_ | refine opW_i lenSl_sl ?_ | refine opW_i min_w ?_ | refine opW_i max_w ?_ | refine load_at hO 0 rfl rfl ?_ | refine load_at hO 1 rfl rfl ?_ | refine load_at hO 2 rfl rfl ?_ | refine load_at hO 3 rfl rfl ?_ | refine load_at hO 4 rfl rfl ?_ | refine load_at hO 5 rfl rfl ?_ | refine load_at hO 6 rfl rfl ?_ | refine load_at hO 7 rfl rfl ?_ | refine load_at hO 8 rfl rfl ?_ | refine load_at hO 9 rfl rfl ?_ | refine wIf_yes (by first | assumption | omega) ?_ | refine wIf_no (by first | assumption | omega) ?_ | refine wIf_t rfl ?_ | refine wIf_f rfl ?_ | refine cond_yes rfl ?_ | refine cond_no rfl ?_)
          refine load_at hO (Γ.length + 0) (at_l (at_l (at_r rfl))) rfl ?_
          repeat (first | refine opP_i (bin_addi (by omega) (by omega)) ?_ | refine opP_i (bin_subi (by omega) (by omega)) ?_ | refine opP_i nilCheck_ptr ?_ | refine opP_i offPtr_ptr ?_ | refine opP_i bin_eql ?_ | refine opP_i bin_neq ?_ | refine opP_i bin_lss ?_ | refine opP_i bin_gtr ?_ | refine opP_i bin_leq ?_ | refine opP_i bin_geq ?_ | refine opP_i un_not ?_ | refine opP_i pick_true ?_ | refine opP_i pick_false ?_ | refine opP_i (pick_yes (by first | assumption | omega)) ?_ | refine opP_i (pick_no (by first | assumption | omega)) ?_ | refine opP_i (idxSl_ok (by omega) (by omega)) ?_ | refine opP_i (idxPtr_ok (by omega) (by omega)) ?_ | refine opW_i lenSl_sl ?_ | refine opW_i min_w ?_ | refine opW_i max_w ?_ | refine load_at hO 0 rfl rfl ?_ | refine load_at hO 1 rfl rfl ?_ | refine load_at hO 2 rfl rfl ?_ | refine load_at hO 3 rfl rfl ?_ | refine load_at hO 4 rfl rfl ?_ | refine load_at hO 5 rfl rfl ?_ | refine load_at hO 6 rfl rfl ?_ | refine load_at hO 7 rfl rfl ?_ | refine load_at hO 8 rfl rfl ?_ | refine load_at hO 9 rfl rfl ?_ | refine wIf_yes (by first | assumption | omega) ?_ | refine wIf_no (by first | assumption | omega) ?_ | refine wIf_t rfl ?_ | refine wIf_f rfl ?_ | refine cond_yes rfl ?_ | refine cond_no rfl ?_)
          refine load_st (t := t) (x := t.act) hO (Γ.length + 0) (at_l (at_l (at_r rfl))) ha (by omega) ?_
          repeat (first | refine opP_i (bin_addi (by omega) (by omega)) ?_ | refine opP_i (bin_subi (by omega) (by omega)) ?_ | refine opP_i nilCheck_ptr ?_ | refine opP_i offPtr_ptr ?_ | refine opP_i bin_eql ?_ | refine opP_i bin_neq ?_ | refine opP_i bin_lss ?_ | refine opP_i bin_gtr ?_ | refine opP_i bin_leq ?_ | refine opP_i bin_geq ?_ | refine opP_i un_not ?_ | refine opP_i pick_true ?_ | refine opP_i pick_false ?_ | refine opP_i (pick_yes (by first | assumption | omega)) ?_ | refine opP_i (pick_no (by first | assumption | omega)) ?_ | refine opP_i (idxSl_ok (by omega) (by omega)) ?_ | refine opP_i (idxPtr_ok (by omega) (by omega)) ?_ | refine opW_i lenSl_sl ?_ | refine opW_i min_w ?_ | refine opW_i max_w ?_ | refine load_at hO 0 rfl rfl ?_ | refine load_at hO 1 rfl rfl ?_ | refine load_at hO 2 rfl rfl ?_ | refine load_at hO 3 rfl rfl ?_ | refine load_at hO 4 rfl rfl ?_ | refine load_at hO 5 rfl rfl ?_ | refine load_at hO 6 rfl rfl ?_ | refine load_at hO 7 rfl rfl ?_ | refine load_at hO 8 rfl rfl ?_ | refine load_at hO 9 rfl rfl ?_ | refine wIf_yes (by first | assumption | omega) ?_ | refine wIf_no (by first | assumption | omega) ?_ | refine wIf_t rfl ?_ | refine wIf_f rfl ?_ | refine cond_yes rfl ?_ | refine cond_no rfl ?_)
          by_cases h2 : (t.sl t.act).st = 2
          · have hz : e = 0 := hz h2
            repeat (first | refine opP_i (bin_addi (by omega) (by omega)) ?_ | refine opP_i (bin_subi (by omega) (by omega)) ?_ | refine opP_i nilCheck_ptr ?_ | refine opP_i offPtr_ptr ?_ | refine opP_i bin_eql ?_ | refine opP_i bin_neq ?_ | refine opP_i bin_lss ?_ | refine opP_i bin_gtr ?_ | refine opP_i bin_leq ?_ | refine opP_i bin_geq ?_ | refine opP_i un_not ?_ | refine opP_i pick_true ?_ | refine opP_i pick_false ?_ | refine opP_i (pick_yes (by first | assumption | omega)) ?_ | refine opP_i (pick_no (by first | assumption | omega)) ?_ | refine opP_i (idxSl_ok (by omega) (by omega)) ?_ | refine opP_i (idxPtr_ok (by omega) (by omega)) ?_ | refine opW_i lenSl_sl ?_ | refine opW_i min_w ?_ | refine opW_i max_w ?_ | refine load_at hO 0 rfl rfl ?_ | refine load_at hO 1 rfl rfl ?_ | refine load_at hO 2 rfl rfl ?_ | refine load_at hO 3 rfl rfl ?_ | refine load_at hO 4 rfl rfl ?_ | refine load_at hO 5 rfl rfl ?_ | refine load_at hO 6 rfl rfl ?_ | refine load_at hO 7 rfl rfl ?_ | refine load_at hO 8 rfl rfl ?_ | refine load_at hO 9 rfl rfl ?_ | refine wIf_yes (by first | assumption | omega) ?_ | refine wIf_no (by first | assumption | omega) ?_ | refine wIf_t rfl ?_ | refine wIf_f rfl ?_ | refine cond_yes rfl ?_ | refine cond_no rfl ?_)
            rw [decide_eq_true h2, decide_eq_true hz]
            exact ⟨rfl, rfl⟩
          · repeat (first | refine opP_i (bin_addi (by omega) (by omega)) ?_ | refine opP_i (bin_subi (by omega) (by omega)) ?_ | refine opP_i nilCheck_ptr ?_ | refine opP_i offPtr_ptr ?_ | refine opP_i bin_eql ?_ | refine opP_i bin_neq ?_ | refine opP_i bin_lss ?_ | refine opP_i bin_gtr ?_ | refine opP_i bin_leq ?_ | refine opP_i bin_geq ?_ | refine opP_i un_not ?_ | refine opP_i pick_true ?_ | refine opP_i pick_false ?_ | refine opP_i (pick_yes (by first | assumption | omega)) ?_ | refine opP_i (pick_no (by first | assumption | omega)) ?_ | refine opP_i (idxSl_ok (by omega) (by omega)) ?_ | refine opP_i (idxPtr_ok (by omega) (by omega)) ?_ | refine opW_i lenSl_sl ?_ | refine opW_i min_w ?_ | refine opW_i max_w ?_ | refine load_at hO 0 rfl rfl ?_ | refine load_at hO 1 rfl rfl ?_ | refine load_at hO 2 rfl rfl ?_ | refine load_at hO 3 rfl rfl ?_ | refine load_at hO 4 rfl rfl ?_ | refine load_at hO 5 rfl rfl ?_ | refine load_at hO 6 rfl rfl ?_ | refine load_at hO 7 rfl rfl ?_ | refine load_at hO 8 rfl rfl ?_ | refine load_at hO 9 rfl rfl ?_ | refine wIf_yes (by first | assumption | omega) ?_ | refine wIf_no (by first | assumption | omega) ?_ | refine wIf_t rfl ?_ | refine wIf_f rfl ?_ | refine cond_yes rfl ?_ | refine cond_no rfl ?_)
            rw [decide_eq_false h2]
            exact ⟨rfl, rfl⟩
        rintro l' H3 ⟨rfl, e3⟩
        rw [e3]
        clear e3
        try simp only [nth_zero, nth_succ]
        refine wIf_dec (fun h2 => ?_) (fun h2 => ?_)
        · rw [if_pos h2] at hlA
          rw [hlA]
          repeat (first | refine opP_i (bin_addi (by omega) (by omega)) ?_ | refine opP_i (bin_subi (by omega) (by omega)) ?_ | refine opP_i nilCheck_ptr ?_ | refine opP_i offPtr_ptr ?_ | refine opP_i bin_eql ?_ | refine opP_i bin_neq ?_ | refine opP_i bin_lss ?_ | refine opP_i bin_gtr ?_ | refine opP_i bin_leq ?_ | refine opP_i bin_geq ?_ | refine opP_i un_not ?_ | refine opP_i pick_true ?_ | refine opP_i pick_false ?_ | refine opP_i (pick_yes (by first | assumption | omega)) ?_ | refine opP_i (pick_no (by first | assumption | omega)) ?_ | refine opP_i (idxSl_ok (by omega) (by omega)) ?_ | refine opP_i (idxPtr_ok (by omega) (by omega)) ?_ | refine opW_i lenSl_sl ?_ | refine opW_i min_w ?_ | refine opW_i max_w ?_ | refine load_at hO 0 rfl rfl ?_ | refine load_at hO 1 rfl rfl ?_ | refine load_at hO 2 rfl rfl ?_ | refine load_at hO 3 rfl rfl ?_ | refine load_at hO 4 rfl rfl ?_ | refine load_at hO 5 rfl rfl ?_ | refine load_at hO 6 rfl rfl ?_ | refine load_at hO 7 rfl rfl ?_ | refine load_at hO 8 rfl rfl ?_ | refine load_at hO 9 rfl rfl ?_ | refine wIf_yes (by first | assumption | omega) ?_ | refine wIf_no (by first | assumption | omega) ?_ | refine wIf_t rfl ?_ | refine wIf_f rfl ?_ | refine cond_yes rfl ?_ | refine cond_no rfl ?_)
          refine load_at hO (Γ.length + 0) (at_l (at_l (at_r rfl))) rfl ?_
          refine loadAll_at hO (((Γ ++ [(p, (⟨tbC t, true⟩ : Blk))]) ++ outB (sl p0 0 0 81) (chs [])).length + 0) (at_r rfl) rfl (by omega) ?_
          refine opP_i (b58s _ _) ?_
          refine newSl_at hO (bs1 _ _) ?_
          intro q3 H hO
          refine append_ch (l := []) (St.mid hO) own0 (by simp) ?_
          intro H v hO hown
          exact ⟨v, rfl, hown, hO⟩
        · rw [if_neg h2] at hlA
          rw [hlA]
          exact ⟨_, rfl, own0, hO.left⟩
      clear hO
      rintro l' H ⟨v, rfl, hown, hO⟩
      try simp only [nth_zero, nth_succ]
      refine opP_i (b58a x) ?_
      refine newSl_at hO (bs1 _ _) ?_
      intro q4 H hO
      refine append_ch hO hown (by have := lA_len (t := t); omega) ?_
      intro H v hO hown
      exact ⟨v, rfl, hown, hO⟩
    · unfold lB
      rw [if_neg h1]
      exact ⟨_, rfl, own0, hO⟩
  clear hO
  rintro l' H ⟨v, rfl, hown, hO⟩
  try simp only [nth_zero, nth_succ]
  refine join_with (fun l' H' => ∃ v, l' = [int x, v] ∧ Own 40 v (lC t x).length (chs (lC t x)) ∧ St H' ((Γ ++ [(p, ⟨tbC t, true⟩)]) ++ outB v (chs (lC t x)))) ?_ ?_
  · repeat (first | refine opP_i (bin_addi (by omega) (by omega)) ?_ | refine opP_i (bin_subi (by omega) (by omega)) ?_ | refine opP_i nilCheck_ptr ?_ | refine opP_i offPtr_ptr ?_ | refine opP_i bin_eql ?_ | refine opP_i bin_neq ?_ | refine opP_i bin_lss ?_ | refine opP_i bin_gtr ?_ | refine opP_i bin_leq ?_ | refine opP_i bin_geq ?_ | refine opP_i un_not ?_ | refine opP_i pick_true ?_ | refine opP_i pick_false ?_ | refine opP_i (pick_yes (by first | assumption | omega)) ?_ | refine opP_i (pick_no (by first | assumption | omega)) ?_ | refine opP_i (idxSl_ok (by omega) (by omega)) ?_ | refine opP_i (idxPtr_ok (by omega) (by omega)) ?_ | refine opW_i lenSl_sl ?_ | refine opW_i min_w ?_ | refine opW_i max_w ?_ | refine load_at hO 0 rfl rfl ?_ | refine load_at hO 1 rfl rfl ?_ | refine load_at hO 2 rfl rfl ?_ | refine load_at hO 3 rfl rfl ?_ | refine load_at hO 4 rfl rfl ?_ | refine load_at hO 5 rfl rfl ?_ | refine load_at hO 6 rfl rfl ?_ | refine load_at hO 7 rfl rfl ?_ | refine load_at hO 8 rfl rfl ?_ | refine load_at hO 9 rfl rfl ?_ | refine wIf_yes (by first | assumption | omega) ?_ | refine wIf_no (by first | assumption | omega) ?_ | refine wIf_t rfl ?_ | refine wIf_f rfl ?_ | refine cond_yes rfl ?_ | refine cond_no rfl ?_)
    refine load_st (t := t) (x := x) hO (Γ.length + 0) (at_l (at_r rfl)) hp (by omega) ?_
    repeat (first | refine opP_i (bin_addi (by omega) (by omega)) ?_ | refine opP_i (bin_subi (by omega) (by omega)) ?_ | refine opP_i nilCheck_ptr ?_ | refine opP_i offPtr_ptr ?_ | refine opP_i bin_eql ?_ | refine opP_i bin_neq ?_ | refine opP_i bin_lss ?_ | refine opP_i bin_gtr ?_ | refine opP_i bin_leq ?_ | refine opP_i bin_geq ?_ | refine opP_i un_not ?_ | refine opP_i pick_true ?_ | refine opP_i pick_false ?_ | refine opP_i (pick_yes (by first | assumption | omega)) ?_ | refine opP_i (pick_no (by first | assumption | omega)) ?_ | refine opP_i (idxSl_ok (by omega) (by omega)) ?_ | refine opP_i (idxPtr_ok (by omega) (by omega)) ?_ | refine opW_i lenSl_sl ?_ | refine opW_i min_w ?_ | refine opW_i max_w ?_ | refine load_at hO 0 rfl rfl ?_ | refine load_at hO 1 rfl rfl ?_ | refine load_at hO 2 rfl rfl ?_ | refine load_at hO 3 rfl rfl ?_ | refine load_at hO 4 rfl rfl ?_ | refine load_at hO 5 rfl rfl ?_ | refine load_at hO 6 rfl rfl ?_ | refine load_at hO 7 rfl rfl ?_ | refine load_at hO 8 rfl rfl ?_ | refine load_at hO 9 rfl rfl ?_ | refine wIf_yes (by first | assumption | omega) ?_ | refine wIf_no (by first | assumption | omega) ?_ | refine wIf_t rfl ?_ | refine wIf_f rfl ?_ | refine cond_yes rfl ?_ | refine cond_no rfl ?_)
    refine wIf_dec (fun h2 => ?_) (fun h2 => ?_)
    · unfold lC
      rw [if_pos h2]
      repeat (first | refine opP_i (bin_addi (by omega) (by omega)) ?_ | refine opP_i (bin_subi (by omega) (by omega)) ?_ | refine opP_i nilCheck_ptr ?_ | refine opP_i offPtr_ptr ?_ | refine opP_i bin_eql ?_ | refine opP_i bin_neq ?_ | refine opP_i bin_lss ?_ | refine opP_i bin_gtr ?_ | refine opP_i bin_leq ?_ | refine opP_i bin_geq ?_ | refine opP_i un_not ?_ | refine opP_i pick_true ?_ | refine opP_i pick_false ?_ | refine opP_i (pick_yes (by first | assumption | omega)) ?_ | refine opP_i (pick_no (by first | assumption | omega)) ?_ | refine opP_i (idxSl_ok (by omega) (by omega)) ?_ | refine opP_i (idxPtr_ok (by omega) (by omega)) ?_ | refine opW_i lenSl_sl ?_ | refine opW_i min_w ?_ | refine opW_i max_w ?_ | refine load_at hO 0 rfl rfl ?_ | refine load_at hO 1 rfl rfl ?_ | refine load_at hO 2 rfl rfl ?_ | refine load_at hO 3 rfl rfl ?_ | refine load_at hO 4 rfl rfl ?_ | refine load_at hO 5 rfl rfl ?_ | refine load_at hO 6 rfl rfl ?_ | refine load_at hO 7 rfl rfl ?_ | refine load_at hO 8 rfl rfl ?_ | refine load_at hO 9 rfl rfl ?_ | refine wIf_yes (by first | assumption | omega) ?_ | refine wIf_no (by first | assumption | omega) ?_ | refine wIf_t rfl ?_ | refine wIf_f rfl ?_ | refine cond_yes rfl ?_ | refine cond_no rfl ?_)
      refine load_slot (t := t) (x := x) hO (Γ.length + 0) (at_l (at_r rfl)) hp (by omega) ?_
      refine ref10_Try_spec hO ?_
      intro H hO
      generalize sTry (t.sl x) = r at *
      obtain ⟨s', e⟩ := r
      refine opP_i ext0 ?_
      refine opP_i ext1 ?_
      rw [zc26]
      refine new_at hO ?_
      intro q2 H hO
      refine storeAll_at hO (((Γ ++ [(p, (⟨tbC t, true⟩ : Blk))]) ++ outB v (chs (lB t x))).length + 0) (at_r rfl) rfl rfl rfl ?_
      intro H hO
      have hO := hO.set_r
      refine loadAll_at hO (((Γ ++ [(p, (⟨tbC t, true⟩ : Blk))]) ++ outB v (chs (lB t x))).length + 0) (at_r rfl) rfl (by omega) ?_
      refine opP_i (b58s _ _) ?_
      refine newSl_at hO (bs1 _ _) ?_
      intro q3 H hO
      refine append_ch (St.mid hO) hown (by have := lB_len (t := t) (p := x); omega) ?_
      intro H v hO hown
      exact ⟨v, rfl, hown, hO⟩
    · unfold lC
      rw [if_neg h2]
      exact ⟨v, rfl, hown, hO⟩
  clear hO
  rintro l' H ⟨v, rfl, hown, hO⟩
  try simp only [nth_zero, nth_succ]
  refine opP_i (b58b x) ?_
  refine newSl_at hO (bs1 _ _) ?_
  intro q3 H hO
  refine append_ch hO hown (by have := lC_len (t := t) (p := x); omega) ?_
  intro H v hO hown
  exact hk _ v (St.mid hO) hown
end
end B
