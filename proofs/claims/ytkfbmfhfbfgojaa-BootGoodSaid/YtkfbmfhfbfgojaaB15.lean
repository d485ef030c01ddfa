import Derived.Test.YtkfbmfhfbfgojaaB14
set_option linter.unusedVariables false
set_option maxRecDepth 100000
namespace B
open Go Go.Ab
variable {H : Heap} {Γ : List (Nat × Blk)} {K : Value → Heap → Prop}
/-- what is said of a table -/
structure Sd where
  kind : Int
  i : Int
  s : Sl
def sdC (a : Sd) : List Value := int a.kind :: int a.i :: slC a.s
section
variable {t : Tb} {a : Sd}
def chgs (t : Tb) (a : Sd) : List Ch :=
  if a.kind = 0 then tPlan t else if a.kind = 1 then (tWipe t).1 else if a.kind = 2 then (tLand t a.i a.s).1 else if a.kind = 3 then (tGood t a.i).1 else (tBad t a.i).1
abbrev MadeL (Γ : List (Nat × Blk)) (K : Value → Heap → Prop) (l : List Ch) : Prop := ∀ (H' : Heap) (v : Value), St H' (Γ ++ outB v (chs l)) → Own 40 v l.length (chs l) → K v H'
set_option maxHeartbeats 2000000 in
theorem law12_changes_spec (hO : St H Γ) (hk : MadeL Γ K (chgs t a)) : wCall P n_law12_changes [agg (tbC t), agg (sdC a)] H K := by
  apply law12_changes_ok; unfold law12_changes
  refine new_at hO ?_
  intro p H hO
  refine new_at hO ?_
  intro q H hO
  rw [List.append_assoc] at hO
  refine newSl_at hO (bs0 _) ?_
  intro r H hO
  rw [List.append_assoc] at hO
  have hO : St H (Γ ++ [(p, ⟨tbC t, true⟩), (q, ⟨sdC a, true⟩)]) := hO.keep 2
  repeat (first | refine opP_i (bin_addi (by omega) (by omega)) ?_ | refine opP_i (bin_subi (by omega) (by omega)) ?_ | refine opP_i nilCheck_ptr ?_ | refine opP_i offPtr_ptr ?_ | refine opP_i bin_eql ?_ | refine opP_i bin_neq ?_ | refine opP_i bin_lss ?_ | refine opP_i bin_gtr ?_ | refine opP_i bin_leq ?_ | refine opP_i bin_geq ?_ | refine opP_i un_not ?_ | refine opP_i pick_true ?_ | refine opP_i pick_false ?_ | refine opP_i (pick_yes (by first | assumption | omega)) ?_ | refine opP_i (pick_no (by first | assumption | omega)) ?_ | refine opP_i (idxSl_ok (by omega) (by omega)) ?_ | refine opP_i (idxPtr_ok (by omega) (by omega)) ?_ | refine opW_i lenSl_sl ?_ | refine opW_i min_w ?_ | refine opW_i max_w ?_ | refine load_at hO 0 rfl rfl ?_ | refine load_at hO 1 rfl rfl ?_ | refine load_at hO 2 rfl rfl ?_ | refine load_at hO 3 rfl rfl ?_ | refine load_at hO 4 rfl rfl ?_ | refine load_at hO 5 rfl rfl ?_ | refine load_at hO 6 rfl rfl ?_ | refine load_at hO 7 rfl rfl ?_ | refine load_at hO 8 rfl rfl ?_ | refine load_at hO 9 rfl rfl ?_ | refine wIf_yes (by first | assumption | omega) ?_ | refine wIf_no (by first | assumption | omega) ?_ | refine wIf_t rfl ?_ | refine wIf_f rfl ?_ | refine cond_yes rfl ?_ | refine cond_no rfl ?_ | refine load_at hO (Γ.length + 0) (at_r rfl) rfl ?_ | refine load_at hO (Γ.length + 1) (at_r rfl) rfl ?_ | refine load_at hO (Γ.length + 2) (at_r rfl) rfl ?_ | refine load_at hO (Γ.length + 3) (at_r rfl) rfl ?_ | refine load_at hO (Γ.length + 4) (at_r rfl) rfl ?_ | refine load_at hO (Γ.length + 5) (at_r rfl) rfl ?_)
  unfold chgs at hk
  refine wIf_dec (fun h => ?_) (fun h => ?_)
  · rw [if_pos h] at hk
    refine loadAll_at hO (Γ.length + 0) (at_r rfl) rfl (by omega) ?_
    refine boot_Plan_spec hO ?_
    intro H v hO hv
    refine opP_i ext0 ?_
    refine opP_i ext1 ?_
    exact hk _ _ (St.mid hO) hv
  rw [if_neg h] at hk
  repeat (first | refine opP_i (bin_addi (by omega) (by omega)) ?_ | refine opP_i (bin_subi (by omega) (by omega)) ?_ | refine opP_i nilCheck_ptr ?_ | refine opP_i offPtr_ptr ?_ | refine opP_i bin_eql ?_ | refine opP_i bin_neq ?_ | refine opP_i bin_lss ?_ | refine opP_i bin_gtr ?_ | refine opP_i bin_leq ?_ | refine opP_i bin_geq ?_ | refine opP_i un_not ?_ | refine opP_i pick_true ?_ | refine opP_i pick_false ?_ | refine opP_i (pick_yes (by first | assumption | omega)) ?_ | refine opP_i (pick_no (by first | assumption | omega)) ?_ | refine opP_i (idxSl_ok (by omega) (by omega)) ?_ | refine opP_i (idxPtr_ok (by omega) (by omega)) ?_ | refine opW_i lenSl_sl ?_ | refine opW_i min_w ?_ | refine opW_i max_w ?_ | refine load_at hO 0 rfl rfl ?_ | refine load_at hO 1 rfl rfl ?_ | refine load_at hO 2 rfl rfl ?_ | refine load_at hO 3 rfl rfl ?_ | refine load_at hO 4 rfl rfl ?_ | refine load_at hO 5 rfl rfl ?_ | refine load_at hO 6 rfl rfl ?_ | refine load_at hO 7 rfl rfl ?_ | refine load_at hO 8 rfl rfl ?_ | refine load_at hO 9 rfl rfl ?_ | refine wIf_yes (by first | assumption | omega) ?_ | refine wIf_no (by first | assumption | omega) ?_ | refine wIf_t rfl ?_ | refine wIf_f rfl ?_ | refine cond_yes rfl ?_ | refine cond_no rfl ?_ | refine load_at hO (Γ.length + 0) (at_r rfl) rfl ?_ | refine load_at hO (Γ.length + 1) (at_r rfl) rfl ?_ | refine load_at hO (Γ.length + 2) (at_r rfl) rfl ?_ | refine load_at hO (Γ.length + 3) (at_r rfl) rfl ?_ | refine load_at hO (Γ.length + 4) (at_r rfl) rfl ?_ | refine load_at hO (Γ.length + 5) (at_r rfl) rfl ?_)
  refine wIf_dec (fun h => ?_) (fun h => ?_)
  · rw [if_pos h] at hk
    refine loadAll_at hO (Γ.length + 0) (at_r rfl) rfl (by omega) ?_
    refine boot_Wipe_spec hO ?_
    intro H v hO hv
    refine opP_i ext0 ?_
    refine opP_i ext1 ?_
    exact hk _ _ (St.mid hO) hv
  rw [if_neg h] at hk
  repeat (first | refine opP_i (bin_addi (by omega) (by omega)) ?_ | refine opP_i (bin_subi (by omega) (by omega)) ?_ | refine opP_i nilCheck_ptr ?_ | refine opP_i offPtr_ptr ?_ | refine opP_i bin_eql ?_ | refine opP_i bin_neq ?_ | refine opP_i bin_lss ?_ | refine opP_i bin_gtr ?_ | refine opP_i bin_leq ?_ | refine opP_i bin_geq ?_ | refine opP_i un_not ?_ | refine opP_i pick_true ?_ | refine opP_i pick_false ?_ | refine opP_i (pick_yes (by first | assumption | omega)) ?_ | refine opP_i (pick_no (by first | assumption | omega)) ?_ | refine opP_i (idxSl_ok (by omega) (by omega)) ?_ | refine opP_i (idxPtr_ok (by omega) (by omega)) ?_ | refine opW_i lenSl_sl ?_ | refine opW_i min_w ?_ | refine opW_i max_w ?_ | refine load_at hO 0 rfl rfl ?_ | refine load_at hO 1 rfl rfl ?_ | refine load_at hO 2 rfl rfl ?_ | refine load_at hO 3 rfl rfl ?_ | refine load_at hO 4 rfl rfl ?_ | refine load_at hO 5 rfl rfl ?_ | refine load_at hO 6 rfl rfl ?_ | refine load_at hO 7 rfl rfl ?_ | refine load_at hO 8 rfl rfl ?_ | refine load_at hO 9 rfl rfl ?_ | refine wIf_yes (by first | assumption | omega) ?_ | refine wIf_no (by first | assumption | omega) ?_ | refine wIf_t rfl ?_ | refine wIf_f rfl ?_ | refine cond_yes rfl ?_ | refine cond_no rfl ?_ | refine load_at hO (Γ.length + 0) (at_r rfl) rfl ?_ | refine load_at hO (Γ.length + 1) (at_r rfl) rfl ?_ | refine load_at hO (Γ.length + 2) (at_r rfl) rfl ?_ | refine load_at hO (Γ.length + 3) (at_r rfl) rfl ?_ | refine load_at hO (Γ.length + 4) (at_r rfl) rfl ?_ | refine load_at hO (Γ.length + 5) (at_r rfl) rfl ?_)
  refine wIf_dec (fun h => ?_) (fun h => ?_)
  · rw [if_pos h] at hk
    refine loadAll_at hO (Γ.length + 0) (at_r rfl) rfl (by omega) ?_
    repeat (first | refine opP_i (bin_addi (by omega) (by omega)) ?_ | refine opP_i (bin_subi (by omega) (by omega)) ?_ | refine opP_i nilCheck_ptr ?_ | refine opP_i offPtr_ptr ?_ | refine opP_i bin_eql ?_ | refine opP_i bin_neq ?_ | refine opP_i bin_lss ?_ | refine opP_i bin_gtr ?_ | refine opP_i bin_leq ?_ | refine opP_i bin_geq ?_ | refine opP_i un_not ?_ | refine opP_i pick_true ?_ | refine opP_i pick_false ?_ | refine opP_i (pick_yes (by first | assumption | omega)) ?_ | refine opP_i (pick_no (by first | assumption | omega)) ?_ | refine opP_i (idxSl_ok (by omega) (by omega)) ?_ | refine opP_i (idxPtr_ok (by omega) (by omega)) ?_ | refine opW_i lenSl_sl ?_ | refine opW_i min_w ?_ | refine opW_i max_w ?_ | refine load_at hO 0 rfl rfl ?_ | refine load_at hO 1 rfl rfl ?_ | refine load_at hO 2 rfl rfl ?_ | refine load_at hO 3 rfl rfl ?_ | refine load_at hO 4 rfl rfl ?_ | refine load_at hO 5 rfl rfl ?_ | refine load_at hO 6 rfl rfl ?_ | refine load_at hO 7 rfl rfl ?_ | refine load_at hO 8 rfl rfl ?_ | refine load_at hO 9 rfl rfl ?_ | refine wIf_yes (by first | assumption | omega) ?_ | refine wIf_no (by first | assumption | omega) ?_ | refine wIf_t rfl ?_ | refine wIf_f rfl ?_ | refine cond_yes rfl ?_ | refine cond_no rfl ?_ | refine load_at hO (Γ.length + 0) (at_r rfl) rfl ?_ | refine load_at hO (Γ.length + 1) (at_r rfl) rfl ?_ | refine load_at hO (Γ.length + 2) (at_r rfl) rfl ?_ | refine load_at hO (Γ.length + 3) (at_r rfl) rfl ?_ | refine load_at hO (Γ.length + 4) (at_r rfl) rfl ?_ | refine load_at hO (Γ.length + 5) (at_r rfl) rfl ?_)
    refine loadAgg_at hO (Γ.length + 1) (at_r rfl) (show _ = slC a.s from rfl) rfl (by omega) ?_
    refine boot_Land_spec hO ?_
    intro H v hO hv
    refine opP_i ext0 ?_
    refine opP_i ext1 ?_
    exact hk _ _ (St.mid hO) hv
  rw [if_neg h] at hk
  repeat (first | refine opP_i (bin_addi (by omega) (by omega)) ?_ | refine opP_i (bin_subi (by omega) (by omega)) ?_ | refine opP_i nilCheck_ptr ?_ | refine opP_i offPtr_ptr ?_ | refine opP_i bin_eql ?_ | refine opP_i bin_neq ?_ | refine opP_i bin_lss ?_ | refine opP_i bin_gtr ?_ | refine opP_i bin_leq ?_ | refine opP_i bin_geq ?_ | refine opP_i un_not ?_ | refine opP_i pick_true ?_ | refine opP_i pick_false ?_ | refine opP_i (pick_yes (by first | assumption | omega)) ?_ | refine opP_i (pick_no (by first | assumption | omega)) ?_ | refine opP_i (idxSl_ok (by omega) (by omega)) ?_ | refine opP_i (idxPtr_ok (by omega) (by omega)) ?_ | refine opW_i lenSl_sl ?_ | refine opW_i min_w ?_ | refine opW_i max_w ?_ | refine load_at hO 0 rfl rfl ?_ | refine load_at hO 1 rfl rfl ?_ | refine load_at hO 2 rfl rfl ?_ | refine load_at hO 3 rfl rfl ?_ | refine load_at hO 4 rfl rfl ?_ | refine load_at hO 5 rfl rfl ?_ | refine load_at hO 6 rfl rfl ?_ | refine load_at hO 7 rfl rfl ?_ | refine load_at hO 8 rfl rfl ?_ | refine load_at hO 9 rfl rfl ?_ | refine wIf_yes (by first | assumption | omega) ?_ | refine wIf_no (by first | assumption | omega) ?_ | refine wIf_t rfl ?_ | refine wIf_f rfl ?_ | refine cond_yes rfl ?_ | refine cond_no rfl ?_ | refine load_at hO (Γ.length + 0) (at_r rfl) rfl ?_ | refine load_at hO (Γ.length + 1) (at_r rfl) rfl ?_ | refine load_at hO (Γ.length + 2) (at_r rfl) rfl ?_ | refine load_at hO (Γ.length + 3) (at_r rfl) rfl ?_ | refine load_at hO (Γ.length + 4) (at_r rfl) rfl ?_ | refine load_at hO (Γ.length + 5) (at_r rfl) rfl ?_)
  refine wIf_dec (fun h => ?_) (fun h => ?_)
  · rw [if_pos h] at hk
    refine loadAll_at hO (Γ.length + 0) (at_r rfl) rfl (by omega) ?_
    repeat (first | refine opP_i (bin_addi (by omega) (by omega)) ?_ | refine opP_i (bin_subi (by omega) (by omega)) ?_ | refine opP_i nilCheck_ptr ?_ | refine opP_i offPtr_ptr ?_ | refine opP_i bin_eql ?_ | refine opP_i bin_neq ?_ | refine opP_i bin_lss ?_ | refine opP_i bin_gtr ?_ | refine opP_i bin_leq ?_ | refine opP_i bin_geq ?_ | refine opP_i un_not ?_ | refine opP_i pick_true ?_ | refine opP_i pick_false ?_ | refine opP_i (pick_yes (by first | assumption | omega)) ?_ | refine opP_i (pick_no (by first | assumption | omega)) ?_ | refine opP_i (idxSl_ok (by omega) (by omega)) ?_ | refine opP_i (idxPtr_ok (by omega) (by omega)) ?_ | refine opW_i lenSl_sl ?_ | refine opW_i min_w ?_ | refine opW_i max_w ?_ | refine load_at hO 0 rfl rfl ?_ | refine load_at hO 1 rfl rfl ?_ | refine load_at hO 2 rfl rfl ?_ | refine load_at hO 3 rfl rfl ?_ | refine load_at hO 4 rfl rfl ?_ | refine load_at hO 5 rfl rfl ?_ | refine load_at hO 6 rfl rfl ?_ | refine load_at hO 7 rfl rfl ?_ | refine load_at hO 8 rfl rfl ?_ | refine load_at hO 9 rfl rfl ?_ | refine wIf_yes (by first | assumption | omega) ?_ | refine wIf_no (by first | assumption | omega) ?_ | refine wIf_t rfl ?_ | refine wIf_f rfl ?_ | refine cond_yes rfl ?_ | refine cond_no rfl ?_ | refine load_at hO (Γ.length + 0) (at_r rfl) rfl ?_ | refine load_at hO (Γ.length + 1) (at_r rfl) rfl ?_ | refine load_at hO (Γ.length + 2) (at_r rfl) rfl ?_ | refine load_at hO (Γ.length + 3) (at_r rfl) rfl ?_ | refine load_at hO (Γ.length + 4) (at_r rfl) rfl ?_ | refine load_at hO (Γ.length + 5) (at_r rfl) rfl ?_)
    refine boot_Good_spec hO ?_
    intro H v hO hv
    refine opP_i ext0 ?_
    refine opP_i ext1 ?_
    exact hk _ _ (St.mid hO) hv
  rw [if_neg h] at hk
  refine loadAll_at hO (Γ.length + 0) (at_r rfl) rfl (by omega) ?_
  repeat (first | refine opP_i (bin_addi (by omega) (by omega)) ?_ | refine opP_i (bin_subi (by omega) (by omega)) ?_ | refine opP_i nilCheck_ptr ?_ | refine opP_i offPtr_ptr ?_ | refine opP_i bin_eql ?_ | refine opP_i bin_neq ?_ | refine opP_i bin_lss ?_ | refine opP_i bin_gtr ?_ | refine opP_i bin_leq ?_ | refine opP_i bin_geq ?_ | refine opP_i un_not ?_ | refine opP_i pick_true ?_ | refine opP_i pick_false ?_ | refine opP_i (pick_yes (by first | assumption | omega)) ?_ | refine opP_i (pick_no (by first | assumption | omega)) ?_ | refine opP_i (idxSl_ok (by omega) (by omega)) ?_ | refine opP_i (idxPtr_ok (by omega) (by omega)) ?_ | refine opW_i lenSl_sl ?_ | refine opW_i min_w ?_ | refine opW_i max_w ?_ | refine load_at hO 0 rfl rfl ?_ | refine load_at hO 1 rfl rfl ?_ | refine load_at hO 2 rfl rfl ?_ | refine load_at hO 3 rfl rfl ?_ | refine load_at hO 4 rfl rfl ?_ | refine load_at hO 5 rfl rfl ?_ | refine load_at hO 6 rfl rfl ?_ | refine load_at hO 7 rfl rfl ?_ | refine load_at hO 8 rfl rfl ?_ | refine load_at hO 9 rfl rfl ?_ | refine wIf_yes (by first | assumption | omega) ?_ | refine wIf_no (by first | assumption | omega) ?_ | refine wIf_t rfl ?_ | refine wIf_f rfl ?_ | refine cond_yes rfl ?_ | refine cond_no rfl ?_ | refine load_at hO (Γ.length + 0) (at_r rfl) rfl ?_ | refine load_at hO (Γ.length + 1) (at_r rfl) rfl ?_ | refine load_at hO (Γ.length + 2) (at_r rfl) rfl ?_ | refine load_at hO (Γ.length + 3) (at_r rfl) rfl ?_ | refine load_at hO (Γ.length + 4) (at_r rfl) rfl ?_ | refine load_at hO (Γ.length + 5) (at_r rfl) rfl ?_)
  refine boot_Bad_spec hO ?_
  intro H v hO hv
  refine opP_i ext0 ?_
  refine opP_i ext1 ?_
  exact hk _ _ (St.mid hO) hv
/-! the plain law -/
theorem Tb.put_sl {i j : Int} {s : Sl} (hi : Ix i) (hj : Ix j) : (t.put i s).sl j = if j = i then s else t.sl j := by
  unfold Tb.put Tb.sl
  rcases hi with rfl | rfl <;> rcases hj with rfl | rfl <;> rfl
theorem Tb.put_act {i : Int} {s : Sl} : (t.put i s).act = t.act := by unfold Tb.put; split <;> rfl
theorem Tb.put_boo {i : Int} {s : Sl} : (t.put i s).boo = t.boo := by unfold Tb.put; split <;> rfl
theorem Tb.put_flo {i : Int} {s : Sl} : (t.put i s).flo = t.flo := by unfold Tb.put; split <;> rfl
theorem TRight.put {i : Int} {s : Sl} (h : TRight t) (hs : SRight s) : TRight (t.put i s) := by
  unfold TRight Tb.put at *
  split
  · exact ⟨hs, h.2⟩
  · exact ⟨h.1, hs, h.2.2⟩
/-- what can be applied -/
def Goes (t : Tb) (c : Ch) : Prop := CRight c ∧ (c.kind = 4 → t.flo ≤ c.ver)
theorem ap1_ok {c : Ch} (h : TRight t) (hc : Goes t c) : ∃ t', ap1 t c = some t' ∧ TRight t' ∧ t.flo ≤ t'.flo := by
  obtain ⟨hc, hf⟩ := hc
  unfold ap1
  by_cases h1 : c.kind = 1
  · rw [if_pos h1]
    refine ⟨_, rfl, h.put ?_, by rw [Tb.put_flo]; omega⟩
    rcases hc with h | h | h | h
    · exact h.2.1.2
    all_goals omega
  rw [if_neg h1]
  by_cases h2 : c.kind = 2
  · rw [if_pos h2]
    refine ⟨_, rfl, ⟨h.1, h.2.1, ?_, h.2.2.2⟩, by show t.flo ≤ t.flo; omega⟩
    rcases hc with h | h | h | h
    · omega
    · exact h.2.1
    all_goals omega
  rw [if_neg h2]
  by_cases h3 : c.kind = 3
  · rw [if_pos h3]
    refine ⟨_, rfl, ⟨h.1, h.2.1, h.2.2.1, ?_, h.2.2.2.2⟩, by show t.flo ≤ t.flo; omega⟩
    rcases hc with h | h | h | h
    · omega
    · omega
    · exact h.2.1
    · omega
  rw [if_neg h3]
  have h4 : c.kind = 4 := by rcases hc with h | h | h | h <;> omega
  have := hf h4
  rw [if_neg (by omega)]
  refine ⟨_, rfl, ⟨h.1, h.2.1, h.2.2.1, h.2.2.2.1, ?_⟩, by show t.flo ≤ c.ver; omega⟩
  rcases hc with h | h | h | h
  · omega
  · omega
  · omega
  · exact h.2.1
theorem SZ0 : SZ (slz 0) := SEq.rfl' _
theorem goes_set {i : Int} {s : Sl} (hi : Ix i) (hs : SRight s) : Goes t (cSet i s) := ⟨.inl ⟨rfl, ⟨hi, hs⟩, rfl, rfl⟩, by intro h; cases h⟩
theorem goes_act {i : Int} (hi : Ix i) : Goes t (cAct i) := ⟨.inr (.inl ⟨rfl, hi, rfl, SZ0, rfl⟩), by intro h; cases h⟩
theorem goes_boo {i : Int} (hi : Ix i) : Goes t (cBoo i) := ⟨.inr (.inr (.inl ⟨rfl, .inr hi, rfl, SZ0, rfl⟩)), by intro h; cases h⟩
theorem goes_flo {v : Int} (h : t.flo ≤ v) (h2 : v ≤ 281474976710656) : Goes t (cFlo v) := ⟨.inr (.inr (.inr ⟨rfl, h2, rfl, rfl, SZ0⟩)), fun _ => h⟩
theorem slz_right {st : Int} (h : st = 0 ∨ st = 1 ∨ st = 4) : SRight (slz st) := .inl ⟨h, rfl, rfl, rfl, eqCells_self (fitD _)⟩
theorem sBad_right {s : Sl} : SRight (sBad s).1 := by
  unfold sBad; split
  · exact slz_right (.inr (.inr rfl))
  · exact slz_right (.inl rfl)
theorem sTry_right {s : Sl} : SRight (sTry s).1 := by
  unfold sTry; split
  · rename_i h
    refine .inr (.inl ⟨h.2.1, ?_, ?_⟩)
    · show 0 ≤ s.tr - 1 ∧ s.tr - 1 ≤ 7
      rcases h.1 with h1 | h1 | h1 <;> omega
    · rcases h.1 with h1 | h1 | h1
      · omega
      · exact h1.2.2
      · exact h1.2.2
  · exact slz_right (.inl rfl)
theorem sGood_right {s : Sl} : SRight (sGood s).1 ∧ ((sGood s).2 = 0 → (sGood s).1.ver ≤ 281474976710656 ∧ (sGood s).1.st = 3) := by
  unfold sGood; split
  · rename_i h
    have hi : SImg s := by
      rcases h.1 with h1 | h1 | h1
      · have := h.2; unfold SFull at this; omega
      · exact h1.2.2
      · exact h1.2.2
    exact ⟨.inr (.inr ⟨rfl, rfl, hi⟩), fun _ => ⟨hi.2.1, rfl⟩⟩
  · exact ⟨slz_right (.inl rfl), by intro h; cases h⟩
/-- the changes go, and end in a table -/
def Goal (t : Tb) (l : List Ch) (Q : Tb → Prop) : Prop := TOk l ∧ ∃ t', apL t l = some t' ∧ TRight t' ∧ t.flo ≤ t'.flo ∧ Q t'
theorem Goal.nil {Q : Tb → Prop} (h : TRight t) (hq : Q t) : Goal t [] Q := ⟨⟨by simp, by simp⟩, t, rfl, h, by omega, hq⟩
theorem Goal.cons {Q : Tb → Prop} {c : Ch} {l : List Ch} (h : TRight t) (hc : Goes t c) (hl : l.length ≤ 7) (hn : ∀ t', ap1 t c = some t' → TRight t' → t.flo ≤ t'.flo → Goal t' l Q) : Goal t (c :: l) Q := by
  obtain ⟨t1, e1, r1, f1⟩ := ap1_ok h hc
  obtain ⟨ho, t2, e2, r2, f2, hq⟩ := hn t1 e1 r1 f1
  refine ⟨⟨by simp; omega, ?_⟩, t2, ?_, r2, by omega, hq⟩
  · intro c' h'
    rcases List.mem_cons.1 h' with rfl | h'
    · exact hc.1
    · exact ho.2 _ h'
  · show (match ap1 t c with | some t' => apL t' l | none => none) = some t2
    rw [e1]; exact e2
theorem ap_set {i : Int} {s : Sl} : ap1 t (cSet i s) = some (t.put i s) := rfl
theorem ap_act {i : Int} : ap1 t (cAct i) = some { t with act := i } := rfl
theorem ap_boo {i : Int} : ap1 t (cBoo i) = some { t with boo := i } := rfl
def G3 (t : Tb) : Prop := t.a.st = 3 ∨ t.b.st = 3
theorem G3_iff : G3 t ↔ (t.sl 0).st = 3 ∨ (t.sl 1).st = 3 := Iff.rfl
theorem G3.put {i : Int} {s : Sl} (h : G3 t) (hi : Ix i) (hn : s.st = 3 ∨ (t.sl i).st ≠ 3 ∨ (t.sl (1 - i)).st = 3) : G3 (t.put i s) := by
  unfold G3 Tb.put Tb.sl at *
  rcases hi with rfl | rfl
  · simp at *; omega
  · simp at *; omega
theorem goal_set {Q : Tb → Prop} {i : Int} {s : Sl} {l : List Ch} (h : TRight t) (hi : Ix i) (hs : SRight s) (hl : l.length ≤ 7) (hn : TRight (t.put i s) → Goal (t.put i s) l Q) : Goal t (cSet i s :: l) Q :=
  Goal.cons h (goes_set hi hs) hl (fun t' e r _ => by rw [ap_set] at e; cases e; exact hn r)
theorem goal_act {Q : Tb → Prop} {i : Int} {l : List Ch} (h : TRight t) (hi : Ix i) (hl : l.length ≤ 7) (hn : TRight { t with act := i } → Goal { t with act := i } l Q) : Goal t (cAct i :: l) Q :=
  Goal.cons h (goes_act hi) hl (fun t' e r _ => by rw [ap_act] at e; cases e; exact hn r)
theorem goal_boo {Q : Tb → Prop} {i : Int} {l : List Ch} (h : TRight t) (hi : Ix i) (hl : l.length ≤ 7) (hn : TRight { t with boo := i } → Goal { t with boo := i } l Q) : Goal t (cBoo i :: l) Q :=
  Goal.cons h (goes_boo hi) hl (fun t' e r _ => by rw [ap_boo] at e; cases e; exact hn r)
theorem tPick_right (h : tPick t ≠ -1) : SBoot (t.sl (tPick t)) ∧ (tPick t ≠ t.act → tPick t = 1 - t.act ∧ ¬ SBoot (t.sl t.act)) := by
  unfold tPick at *
  by_cases hr : TRight t
  · rw [if_pos hr] at *
    unfold vPick at *
    by_cases h1 : SBoot (t.sl t.act)
    · rw [if_pos h1] at *
      exact ⟨h1, fun h => absurd rfl h⟩
    · rw [if_neg h1] at *
      by_cases h2 : SBoot (t.sl (1 - t.act))
      · rw [if_pos h2] at *
        exact ⟨h2, fun _ => ⟨rfl, h1⟩⟩
      · rw [if_neg h2] at h; exact absurd rfl h
  · rw [if_neg hr] at h; exact absurd rfl h
theorem goal_C {p : Int} (h : TRight t) (hg : G3 t) (hp : Ix p) {r : Sl} (hr : t.sl p = r) (l : List Ch) (hl : l.length ≤ 6) (hn : ∀ t', TRight t' → G3 t' → Goal t' l G3) : Goal t ((if r.st = 2 then [cSet p (sTry r).1] else []) ++ l) G3 := by
  by_cases h2 : r.st = 2
  · rw [if_pos h2]
    exact goal_set h hp sTry_right (show ([] ++ l).length ≤ 7 by simp; omega) fun hr' => hn _ hr' (hg.put hp (by rw [hr]; omega))
  · rw [if_neg h2]
    exact hn _ h hg
theorem goal_plan (h : TRight t) (hg : G3 t) : Goal t (tPlan t) G3 := by
  unfold tPlan
  by_cases h1 : tPick t = -1
  · rw [if_pos h1]; exact .nil h hg
  rw [if_neg h1]
  obtain ⟨_, hp⟩ := pick_ix h1
  obtain ⟨hb, hne⟩ := tPick_right h1
  have ha := h.2.2.1
  have hend : ∀ t', TRight t' → G3 t' → Goal t' [cBoo (tPick t)] G3 := fun t' hr hg' => goal_boo hr hp (by simp) fun hr => .nil hr hg'
  have hC : lC t (tPick t) ++ [cBoo (tPick t)] = lB t (tPick t) ++ ((if (t.sl (tPick t)).st = 2 then [cSet (tPick t) (sTry (t.sl (tPick t))).1] else []) ++ [cBoo (tPick t)]) := by
    unfold lC; split <;> simp
  rw [hC]
  by_cases h2 : tPick t = t.act
  · rw [show lB t (tPick t) = [] from if_neg (by omega)]
    exact goal_C h hg hp rfl _ (by simp) hend
  · rw [show lB t (tPick t) = lA t ++ [cAct (tPick t)] from if_pos (by omega)]
    obtain ⟨e, hnb⟩ := hne h2
    unfold lA
    have hmid : ∀ t', TRight t' → G3 t' → t'.sl (tPick t) = t.sl (tPick t) → Goal t' (cAct (tPick t) :: ((if (t.sl (tPick t)).st = 2 then [cSet (tPick t) (sTry (t.sl (tPick t))).1] else []) ++ [cBoo (tPick t)])) G3 := fun t' hr hg' he =>
      goal_act hr hp (by split <;> simp) fun hr => goal_C hr (show G3 { t' with act := tPick t } from hg') hp he _ (by simp) hend
    by_cases h3 : (t.sl t.act).st = 2
    · rw [if_pos h3]
      refine goal_set h ha sBad_right (by split <;> simp) fun hr => ?_
      refine hmid _ hr (hg.put ha (by omega)) ?_
      rw [Tb.put_sl ha hp, if_neg h2]
    · rw [if_neg h3]
      exact hmid _ h hg rfl
theorem goal_all (h : TRight t) (hg : G3 t) : Goal t (chgs t a) G3 := by
  unfold chgs
  by_cases k0 : a.kind = 0
  · rw [if_pos k0]; exact goal_plan h hg
  rw [if_neg k0]
  by_cases k1 : a.kind = 1
  · rw [if_pos k1]
    unfold tWipe
    by_cases h1 : tAim t = -1
    · rw [if_pos h1]; exact .nil h hg
    rw [if_neg h1]
    unfold tAim at *
    by_cases h2 : TAim t
    · rw [if_pos h2] at *
      have ha := h.2.2.1
      exact goal_set h ha.flip (slz_right (.inr (.inl rfl))) (by simp) fun hr => .nil hr (hg.put ha.flip (.inr (.inr (by rw [show 1 - (1 - t.act) = t.act by omega]; exact h2.2.2))))
    · rw [if_neg h2] at h1; exact absurd rfl h1
  rw [if_neg k1]
  by_cases k2 : a.kind = 2
  · rw [if_pos k2]
    unfold tLand
    by_cases h1 : TLand t a.i a.s
    · rw [if_pos h1]
      obtain ⟨_, hi, hne, hst, hs, _⟩ := h1
      exact goal_set h hi hs (by simp) fun hr => goal_act hr hi (by simp) fun hr => .nil hr (show G3 (t.put a.i a.s) from hg.put hi (.inr (.inl (by omega))))
    · rw [if_neg h1]; exact .nil h hg
  rw [if_neg k2]
  by_cases k3 : a.kind = 3
  · rw [if_pos k3]
    unfold tGood
    by_cases h1 : TGood t a.i
    · rw [if_pos h1]
      obtain ⟨hs, hv⟩ := sGood_right (s := t.sl a.i)
      by_cases h2 : (sGood (t.sl a.i)).2 ≠ 0
      · rw [if_pos h2]; exact .nil h hg
      rw [if_neg h2]
      obtain ⟨hv1, hv2⟩ := hv (by omega)
      have hi := h1.2.1
      have hg' : G3 (t.put a.i (sGood (t.sl a.i)).1) := hg.put hi (.inl hv2)
      by_cases h3 : t.flo < (sGood (t.sl a.i)).1.ver
      · rw [if_pos h3]
        refine goal_set h hi hs (by simp) fun hr => ?_
        refine Goal.cons hr (goes_flo (by rw [Tb.put_flo]; omega) hv1) (by simp) fun t' e r _ => .nil r ?_
        have e' : ap1 (t.put a.i (sGood (t.sl a.i)).1) (cFlo (sGood (t.sl a.i)).1.ver) = if (sGood (t.sl a.i)).1.ver < (t.put a.i (sGood (t.sl a.i)).1).flo then none else some { t.put a.i (sGood (t.sl a.i)).1 with flo := (sGood (t.sl a.i)).1.ver } := rfl
        rw [e', if_neg (by rw [Tb.put_flo]; omega)] at e
        cases e
        exact hg'
      · rw [if_neg h3]
        exact goal_set h hi hs (by simp) fun hr => .nil hr hg'
    · rw [if_neg h1]; exact .nil h hg
  rw [if_neg k3]
  unfold tBad
  by_cases h1 : TBad t a.i
  · rw [if_pos h1]
    have hi := h1.2
    by_cases h2 : (sBad (t.sl a.i)).2 ≠ 0
    · rw [if_pos h2]; exact .nil h hg
    rw [if_neg h2]
    by_cases h3 : (t.sl (1 - a.i)).st = 3
    · rw [if_pos h3]
      have hg' : G3 (t.put a.i (sBad (t.sl a.i)).1) := hg.put hi (.inr (.inr h3))
      by_cases h4 : a.i = t.act
      · rw [if_pos h4]
        exact goal_set h hi sBad_right (by simp) fun hr => goal_act hr hi.flip (by simp) fun hr => .nil hr (show G3 (t.put a.i (sBad (t.sl a.i)).1) from hg')
      · rw [if_neg h4]
        exact goal_set h hi sBad_right (by simp) fun hr => .nil hr hg'
    · rw [if_neg h3]; exact .nil h hg
  · rw [if_neg h1]; exact .nil h hg
theorem good_pick (h : TRight t) (hg : G3 t) : Ix (vPick t) ∧ SBoot (t.sl (vPick t)) := by
  have ha := h.2.2.1
  unfold vPick
  by_cases h1 : SBoot (t.sl t.act)
  · rw [if_pos h1]; exact ⟨ha, h1⟩
  rw [if_neg h1]
  by_cases h2 : SBoot (t.sl (1 - t.act))
  · rw [if_pos h2]; exact ⟨ha.flip, h2⟩
  exfalso
  have hb : ∀ j, (t.sl j).st = 3 → SBoot (t.sl j) := fun j hj => ⟨h.sl, .inl hj⟩
  rcases ha with e | e
  · rw [e] at h1 h2
    rcases G3_iff.1 hg with hg | hg
    · exact h1 (hb _ hg)
    · exact h2 (hb _ hg)
  · rw [e] at h1 h2
    rcases G3_iff.1 hg with hg | hg
    · exact h2 (hb _ hg)
    · exact h1 (hb _ hg)
end
end B
