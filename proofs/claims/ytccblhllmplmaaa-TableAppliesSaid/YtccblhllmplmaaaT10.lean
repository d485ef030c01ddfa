import Derived.Test.YtccblhllmplmaaaT9
set_option linter.unusedVariables false
set_option maxRecDepth 100000
namespace T
open Go Go.Ab
variable {H : Heap} {Γ : List (Nat × Blk)} {K : Value → Heap → Prop} {v w x : Value} {xs ys : List Int}
section
variable {s : Sl} {t : Tb} {c : Ch} {l : List Ch}
set_option maxHeartbeats 4000000 in
theorem applies_main (hO : St H Γ) (hv : RdC Γ v l) (hf : 0 ≤ t.flo) (hver : ∀ c ∈ l, 0 ≤ c.ver) : wCall P n_law11_TableApplies [agg (tbC t), v] H fun v _ => v = .bool true := by
  apply law11_TableApplies_ok; unfold law11_TableApplies
  refine new_at hO ?_
  intro p H hO
  refine law11_tableAlive_spec ?_
  repeat (first | refine opP_i (bin_addi (by omega) (by omega)) ?_ | refine opP_i (bin_subi (by omega) (by omega)) ?_ | refine opP_i nilCheck_ptr ?_ | refine opP_i offPtr_ptr ?_ | refine opP_i bin_eql ?_ | refine opP_i bin_neq ?_ | refine opP_i bin_lss ?_ | refine opP_i bin_gtr ?_ | refine opP_i bin_leq ?_ | refine opP_i bin_geq ?_ | refine opP_i un_not ?_ | refine opP_i pick_true ?_ | refine opP_i pick_false ?_ | refine opP_i (pick_yes (by first | assumption | omega)) ?_ | refine opP_i (pick_no (by first | assumption | omega)) ?_ | refine opP_i (idxSl_ok (by omega) (by omega)) ?_ | refine opP_i (idxPtr_ok (by omega) (by omega)) ?_ | refine opW_i lenSl_sl ?_ | refine opW_i min_w ?_ | refine opW_i max_w ?_ | refine load_at hO 0 rfl rfl ?_ | refine load_at hO 1 rfl rfl ?_ | refine load_at hO 2 rfl rfl ?_ | refine load_at hO 3 rfl rfl ?_ | refine load_at hO 4 rfl rfl ?_ | refine load_at hO 5 rfl rfl ?_ | refine load_at hO 6 rfl rfl ?_ | refine load_at hO 7 rfl rfl ?_ | refine load_at hO 8 rfl rfl ?_ | refine load_at hO 9 rfl rfl ?_ | refine wIf_yes (by first | assumption | omega) ?_ | refine wIf_no (by first | assumption | omega) ?_ | refine wIf_t rfl ?_ | refine wIf_f rfl ?_ | refine cond_yes rfl ?_ | refine cond_no rfl ?_)
  refine opW_i (by rw [hv.1]) ?_
  repeat (first | refine opP_i (bin_addi (by omega) (by omega)) ?_ | refine opP_i (bin_subi (by omega) (by omega)) ?_ | refine opP_i nilCheck_ptr ?_ | refine opP_i offPtr_ptr ?_ | refine opP_i bin_eql ?_ | refine opP_i bin_neq ?_ | refine opP_i bin_lss ?_ | refine opP_i bin_gtr ?_ | refine opP_i bin_leq ?_ | refine opP_i bin_geq ?_ | refine opP_i un_not ?_ | refine opP_i pick_true ?_ | refine opP_i pick_false ?_ | refine opP_i (pick_yes (by first | assumption | omega)) ?_ | refine opP_i (pick_no (by first | assumption | omega)) ?_ | refine opP_i (idxSl_ok (by omega) (by omega)) ?_ | refine opP_i (idxPtr_ok (by omega) (by omega)) ?_ | refine opW_i lenSl_sl ?_ | refine opW_i min_w ?_ | refine opW_i max_w ?_ | refine load_at hO 0 rfl rfl ?_ | refine load_at hO 1 rfl rfl ?_ | refine load_at hO 2 rfl rfl ?_ | refine load_at hO 3 rfl rfl ?_ | refine load_at hO 4 rfl rfl ?_ | refine load_at hO 5 rfl rfl ?_ | refine load_at hO 6 rfl rfl ?_ | refine load_at hO 7 rfl rfl ?_ | refine load_at hO 8 rfl rfl ?_ | refine load_at hO 9 rfl rfl ?_ | refine wIf_yes (by first | assumption | omega) ?_ | refine wIf_no (by first | assumption | omega) ?_ | refine wIf_t rfl ?_ | refine wIf_f rfl ?_ | refine cond_yes rfl ?_ | refine cond_no rfl ?_)
  refine wIf_dec (fun h => ?_) (fun h => ?_)
  · rfl
  refine loadAll_at hO (Γ.length + 0) (at_r rfl) rfl (by omega) ?_
  refine table_Apply_spec hO hv.app (by omega) ?_
  intro H hO
  obtain ⟨u, e, hu⟩ : ∃ u e, tApply t l = (u, e) := ⟨_, _, rfl⟩
  rw [hu]
  refine opP_i ext0 ?_
  refine opP_i ext1 ?_
  rw [zc29]
  refine new_at hO ?_
  intro q H hO
  rw [List.append_assoc] at hO
  refine storeAll_at hO (Γ.length + 1) (at_r rfl) rfl rfl rfl ?_
  intro H hO
  replace hO : St H (Γ ++ [(p, ⟨tbC t, true⟩), (q, ⟨tbC u, true⟩)]) := hO.set_r
  refine loadAll_at hO (Γ.length + 0) (at_r rfl) rfl (by omega) ?_
  refine ref11_Apply_spec hO hv.app (by omega) ?_
  intro H hO
  rw [hu]
  refine opP_i ext0 ?_
  refine opP_i ext1 ?_
  refine new_at hO ?_
  intro r H hO
  rw [List.append_assoc] at hO
  refine storeAll_at hO (Γ.length + 2) (at_r rfl) rfl rfl rfl ?_
  intro H hO
  replace hO : St H (Γ ++ [(p, ⟨tbC t, true⟩), (q, ⟨tbC u, true⟩), (r, ⟨tbC u, true⟩)]) := hO.set_r
  refine loadAll_at hO (Γ.length + 0) (at_r rfl) rfl (by omega) ?_
  refine table_Right_spec hO ?_
  intro H2 hO2
  refine loadAll_at hO2 (Γ.length + 0) (at_r rfl) rfl (by omega) ?_
  refine ⟨same_at hO (Γ.length + 0) (at_r rfl) hO2 (Γ.length + 0) (at_r rfl) rfl, ?_⟩
  refine ref11_Right_spec hO2 ?_
  clear hO hO2
  intro H hO
  refine opP_i (bin_eql_b u4) ?_
  refine wIf_t (by simp) ?_
  refine loadAll_at hO (Γ.length + 1) (at_r rfl) rfl (by omega) ?_
  refine loadAll_at hO (Γ.length + 2) (at_r rfl) rfl (by omega) ?_
  refine opP_i (eq37_self _ _) ?_
  rw [show ((decide (TRight t) == decide (TRight t)) = true) by simp]
  repeat (first | refine opP_i (bin_addi (by omega) (by omega)) ?_ | refine opP_i (bin_subi (by omega) (by omega)) ?_ | refine opP_i nilCheck_ptr ?_ | refine opP_i offPtr_ptr ?_ | refine opP_i bin_eql ?_ | refine opP_i bin_neq ?_ | refine opP_i bin_lss ?_ | refine opP_i bin_gtr ?_ | refine opP_i bin_leq ?_ | refine opP_i bin_geq ?_ | refine opP_i un_not ?_ | refine opP_i pick_true ?_ | refine opP_i pick_false ?_ | refine opP_i (pick_yes (by first | assumption | omega)) ?_ | refine opP_i (pick_no (by first | assumption | omega)) ?_ | refine opP_i (idxSl_ok (by omega) (by omega)) ?_ | refine opP_i (idxPtr_ok (by omega) (by omega)) ?_ | refine opW_i lenSl_sl ?_ | refine opW_i min_w ?_ | refine opW_i max_w ?_ | refine load_at hO 0 rfl rfl ?_ | refine load_at hO 1 rfl rfl ?_ | refine load_at hO 2 rfl rfl ?_ | refine load_at hO 3 rfl rfl ?_ | refine load_at hO 4 rfl rfl ?_ | refine load_at hO 5 rfl rfl ?_ | refine load_at hO 6 rfl rfl ?_ | refine load_at hO 7 rfl rfl ?_ | refine load_at hO 8 rfl rfl ?_ | refine load_at hO 9 rfl rfl ?_ | refine wIf_yes (by first | assumption | omega) ?_ | refine wIf_no (by first | assumption | omega) ?_ | refine wIf_t rfl ?_ | refine wIf_f rfl ?_ | refine cond_yes rfl ?_ | refine cond_no rfl ?_ | refine load_at hO (Γ.length + 0) (at_r rfl) rfl ?_ | refine load_at hO (Γ.length + 1) (at_r rfl) rfl ?_ | refine load_at hO (Γ.length + 2) (at_r rfl) rfl ?_ | refine load_at hO (Γ.length + 3) (at_r rfl) rfl ?_ | refine load_at hO (Γ.length + 4) (at_r rfl) rfl ?_ | refine load_at hO (Γ.length + 5) (at_r rfl) rfl ?_)
  refine loadAll_at hO (Γ.length + 0) (at_r rfl) rfl (by omega) ?_
  refine table_Bytes_spec hO hf ?_
  intro H2 v1 c1 hO2 h1
  refine opW_i (h1.rd.app'.str hO2) ?_
  refine loadAll_at hO2 (Γ.length + 0) (at_l (at_r rfl)) rfl (by omega) ?_
  refine ⟨same_at hO (Γ.length + 0) (at_r rfl) hO2 (Γ.length + 0) (at_l (at_r rfl)) rfl, ?_⟩
  clear hO
  refine ref11_Bytes_spec hO2 hf ?_
  intro H v2 c2 hO h2
  refine ⟨same_own hO2 h1 hO, ?_⟩
  refine opW_i (h2.rd.app'.str hO) ?_
  refine opP_i (str_self _ _ _) ?_
  repeat (first | refine opP_i (bin_addi (by omega) (by omega)) ?_ | refine opP_i (bin_subi (by omega) (by omega)) ?_ | refine opP_i nilCheck_ptr ?_ | refine opP_i offPtr_ptr ?_ | refine opP_i bin_eql ?_ | refine opP_i bin_neq ?_ | refine opP_i bin_lss ?_ | refine opP_i bin_gtr ?_ | refine opP_i bin_leq ?_ | refine opP_i bin_geq ?_ | refine opP_i un_not ?_ | refine opP_i pick_true ?_ | refine opP_i pick_false ?_ | refine opP_i (pick_yes (by first | assumption | omega)) ?_ | refine opP_i (pick_no (by first | assumption | omega)) ?_ | refine opP_i (idxSl_ok (by omega) (by omega)) ?_ | refine opP_i (idxPtr_ok (by omega) (by omega)) ?_ | refine opW_i lenSl_sl ?_ | refine opW_i min_w ?_ | refine opW_i max_w ?_ | refine load_at hO 0 rfl rfl ?_ | refine load_at hO 1 rfl rfl ?_ | refine load_at hO 2 rfl rfl ?_ | refine load_at hO 3 rfl rfl ?_ | refine load_at hO 4 rfl rfl ?_ | refine load_at hO 5 rfl rfl ?_ | refine load_at hO 6 rfl rfl ?_ | refine load_at hO 7 rfl rfl ?_ | refine load_at hO 8 rfl rfl ?_ | refine load_at hO 9 rfl rfl ?_ | refine wIf_yes (by first | assumption | omega) ?_ | refine wIf_no (by first | assumption | omega) ?_ | refine wIf_t rfl ?_ | refine wIf_f rfl ?_ | refine cond_yes rfl ?_ | refine cond_no rfl ?_ | refine load_at hO (Γ.length + 0) (at_r rfl) rfl ?_ | refine load_at hO (Γ.length + 1) (at_r rfl) rfl ?_ | refine load_at hO (Γ.length + 2) (at_r rfl) rfl ?_ | refine load_at hO (Γ.length + 3) (at_r rfl) rfl ?_ | refine load_at hO (Γ.length + 4) (at_r rfl) rfl ?_ | refine load_at hO (Γ.length + 5) (at_r rfl) rfl ?_)
  have hO := hO.left.left
  refine table_Put_spec hO hv.app (by omega) hver ?_
  clear hO2
  intro H v3 c3 hO h3
  refine opW_i (h3.rd.app'.str hO) ?_
  refine ref11_Put_spec hO hv.app.app (by omega) hver ?_
  intro H2 v4 c4 hO2 h4
  refine ⟨same_own hO h3 hO2, ?_⟩
  refine opW_i (h4.rd.app'.str hO2) ?_
  refine opP_i (str_self _ _ _) ?_
  repeat (first | refine opP_i (bin_addi (by omega) (by omega)) ?_ | refine opP_i (bin_subi (by omega) (by omega)) ?_ | refine opP_i nilCheck_ptr ?_ | refine opP_i offPtr_ptr ?_ | refine opP_i bin_eql ?_ | refine opP_i bin_neq ?_ | refine opP_i bin_lss ?_ | refine opP_i bin_gtr ?_ | refine opP_i bin_leq ?_ | refine opP_i bin_geq ?_ | refine opP_i un_not ?_ | refine opP_i pick_true ?_ | refine opP_i pick_false ?_ | refine opP_i (pick_yes (by first | assumption | omega)) ?_ | refine opP_i (pick_no (by first | assumption | omega)) ?_ | refine opP_i (idxSl_ok (by omega) (by omega)) ?_ | refine opP_i (idxPtr_ok (by omega) (by omega)) ?_ | refine opW_i lenSl_sl ?_ | refine opW_i min_w ?_ | refine opW_i max_w ?_ | refine load_at hO 0 rfl rfl ?_ | refine load_at hO 1 rfl rfl ?_ | refine load_at hO 2 rfl rfl ?_ | refine load_at hO 3 rfl rfl ?_ | refine load_at hO 4 rfl rfl ?_ | refine load_at hO 5 rfl rfl ?_ | refine load_at hO 6 rfl rfl ?_ | refine load_at hO 7 rfl rfl ?_ | refine load_at hO 8 rfl rfl ?_ | refine load_at hO 9 rfl rfl ?_ | refine wIf_yes (by first | assumption | omega) ?_ | refine wIf_no (by first | assumption | omega) ?_ | refine wIf_t rfl ?_ | refine wIf_f rfl ?_ | refine cond_yes rfl ?_ | refine cond_no rfl ?_ | refine load_at hO (Γ.length + 0) (at_r rfl) rfl ?_ | refine load_at hO (Γ.length + 1) (at_r rfl) rfl ?_ | refine load_at hO (Γ.length + 2) (at_r rfl) rfl ?_ | refine load_at hO (Γ.length + 3) (at_r rfl) rfl ?_ | refine load_at hO (Γ.length + 4) (at_r rfl) rfl ?_ | refine load_at hO (Γ.length + 5) (at_r rfl) rfl ?_)
  rfl
end
/-! arguments -/
theorem shp_tableW {ts : List TypeId} {N : Nat} {c : List Value} {b : List (List Value)} (h : ShpL P (37 :: ts) N c b) : ∃ (t : Tb) (c' : List Value), c = tbC t ++ c' ∧ 0 ≤ t.flo ∧ ShpL P ts N c' b := by
  have h0 := shp_structH Go.Proofs.Try.underlying37 h
  have h0 : ShpL P (35 :: 3 :: 3 :: 30 :: ts) N c b := h0
  have h1 := shp_arrayH Go.Proofs.Try.underlying35 h0
  have h1 : ShpL P (34 :: 34 :: 3 :: 3 :: 30 :: ts) N c b := h1
  obtain ⟨a, c1, e1, h2⟩ := shp_slot h1
  obtain ⟨s, c2, e2, h3⟩ := shp_slot h2
  obtain ⟨x1, c3, e3, _, h4⟩ := shp_int1 (k := .i64) Go.Proofs.Try.underlying3 h3
  obtain ⟨x2, c4, e4, _, h5⟩ := shp_int1 (k := .i64) Go.Proofs.Try.underlying3 h4
  obtain ⟨x3, c5, e5, w, h6⟩ := shp_int1 (k := .u64) Go.Proofs.Try.underlying30 h5
  refine ⟨⟨a, s, x1, x2, x3⟩, c5, ?_, (wf_u64 w).1, h6⟩
  rw [e1, e2, e3, e4, e5]; rfl
theorem arg_tableW {ts : List TypeId} {N : Nat} {av : List Value} {b : List (List Value)} (h : ArgS P (37 :: ts) N av b) : ∃ (t : Tb) (vs : List Value), av = agg (tbC t) :: vs ∧ 0 ≤ t.flo ∧ ArgS P ts N vs b := by
  obtain ⟨cs, vs, b1, b2, rfl, rfl, h1, h2⟩ := arg_agg h (.inl ⟨_, Go.Proofs.Try.underlying37⟩)
  obtain ⟨t, c', rfl, hf, h3⟩ := shp_tableW h1
  obtain ⟨rfl, rfl⟩ := shp_nil h3
  refine ⟨t, vs, ?_, hf, by simpa using h2⟩
  rw [List.append_nil]
theorem shp_chL : ∀ (n N : Nat) (c : List Value) (b : List (List Value)), ShpL P (List.replicate n 41) N c b → b = [] ∧ ∃ l : List Ch, c = chs l ∧ l.length = n ∧ ∀ c ∈ l, 0 ≤ c.ver
  | 0, N, c, b, h => by cases h; exact ⟨rfl, [], rfl, rfl, by simp⟩
  | n + 1, N, c, b, h => by
    have h : ShpL P (41 :: List.replicate n 41) N c b := h
    have h0 := shp_structH Go.Proofs.Try.underlying41 h
    have h0 : ShpL P (3 :: 3 :: 3 :: 34 :: 30 :: List.replicate n 41) N c b := h0
    obtain ⟨x1, c1, e1, _, h1⟩ := shp_int1 (k := .i64) Go.Proofs.Try.underlying3 h0
    obtain ⟨x2, c2, e2, _, h2⟩ := shp_int1 (k := .i64) Go.Proofs.Try.underlying3 h1
    obtain ⟨x3, c3, e3, _, h3⟩ := shp_int1 (k := .i64) Go.Proofs.Try.underlying3 h2
    obtain ⟨s, c4, e4, h4⟩ := shp_slot h3
    obtain ⟨x5, c5, e5, w, h5⟩ := shp_int1 (k := .u64) Go.Proofs.Try.underlying30 h4
    obtain ⟨hb, l, e6, hl, hw⟩ := shp_chL n _ _ _ h5
    refine ⟨hb, ⟨x1, x2, x3, s, x5⟩ :: l, ?_, by simp [hl], ?_⟩
    · rw [e1, e2, e3, e4, e5, e6]
      show _ = chC ⟨x1, x2, x3, s, x5⟩ ++ chs l
      simp [chC]
    · intro c hc
      rcases List.mem_cons.1 hc with rfl | hc
      · exact (wf_u64 w).1
      · exact hw c hc
theorem arg_chs {ts : List TypeId} {N : Nat} {av : List Value} {b : List (List Value)} (h : ArgS P (43 :: ts) N av b) :
    ∃ v vs b1 b2 l, av = v :: vs ∧ b = b1 ++ b2 ∧ RdC (argG N b1) v l ∧ (∀ c ∈ l, 0 ≤ c.ver) ∧ ArgS P ts (N + b1.length) vs b2 := by
  have hu : P.underlying 43 = some (.slice 41) := by kernel_rfl
  obtain ⟨v, vs, b1, b2, e, eb, h1, h2⟩ := arg_one h (by rw [hu]; simp) (by rw [hu]; simp)
  rcases shp_sl hu h1 with ⟨c', e1, h3⟩ | ⟨len, cells, c', bs, b', e1, eb1, hm, hl, h3, h4⟩
  · cases e1
    exact ⟨_, vs, b1, b2, [], e, eb, ⟨rfl, .inl rfl⟩, by simp, h2⟩
  · cases e1
    obtain ⟨hb, l, rfl, rfl, hw⟩ := shp_chL _ _ _ _ h3
    subst hb
    subst eb1
    exact ⟨_, vs, _, b2, l, e, eb, ⟨rfl, .inr ⟨N, _, 0, rfl, _, rfl⟩⟩, hw, h2⟩
end T
