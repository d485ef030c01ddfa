import Derived.Test.YtkfbmfhfbfgojaaB9
set_option linter.unusedVariables false
set_option maxRecDepth 100000
namespace B
open Go Go.Ab
variable {H : Heap} {Γ : List (Nat × Blk)} {K : Value → Heap → Prop}
section
variable {t : Tb}
theorem Fit.join : ∀ {a b : List CK} {xs ys : List Value}, Fit a xs → Fit b ys → Fit (a ++ b) (xs ++ ys)
  | [], _, [], _, _, h => h
  | _ :: _, _, _ :: _, _, h, h2 => ⟨h.1, Fit.join h.2 h2⟩
theorem fitC (c : Ch) : Fit kC (chC c) := ⟨rfl, rfl, rfl, Fit.join (fitS c.to) ⟨rfl, trivial⟩⟩
theorem chs_at : ∀ (l : List Ch) (i : Nat) (h : i < l.length), ((chs l).drop (i * 40)).take 40 = chC l[i]
  | [], _, h => by simp at h
  | c :: l, 0, _ => by
    show ((chC c ++ chs l).drop 0).take 40 = chC c
    rw [List.drop_zero, List.take_append_of_le_length (by rw [chC_len]; omega), List.take_of_length_le (by rw [chC_len]; omega)]
  | c :: l, i + 1, h => by
    show ((chC c ++ chs l).drop ((i + 1) * 40)).take 40 = chC (l[i]'(by simpa using h))
    rw [show (i + 1) * 40 = 40 + i * 40 by omega, ← List.drop_drop, show (chC c ++ chs l).drop 40 = chs l from rfl]
    exact chs_at l i (by simpa using h)
/-- a list of changes that can be read -/
def RdC (Γ : List (Nat × Blk)) (v : Value) (l : List Ch) : Prop :=
  lenSl v = (fun H => some (int l.length, H)) ∧ (l = [] ∨ ∃ (p c j : Nat), v = sl p 0 l.length c ∧ Γ[j]? = some (p, (⟨chs l, true⟩ : Blk)))
theorem RdC.app {Γ Δ : List (Nat × Blk)} {v : Value} {l : List Ch} (h : RdC Γ v l) : RdC (Γ ++ Δ) v l := by
  refine ⟨h.1, ?_⟩
  rcases h.2 with h | ⟨p, c, j, h1, h2⟩
  · exact .inl h
  · exact .inr ⟨p, c, j, h1, at_l h2⟩
theorem RdC.app' {Γ Δ : List (Nat × Blk)} {v : Value} {l : List Ch} (h : RdC Δ v l) : RdC (Γ ++ Δ) v l := by
  refine ⟨h.1, ?_⟩
  rcases h.2 with h | ⟨p, c, j, h1, h2⟩
  · exact .inl h
  · exact .inr ⟨p, c, Γ.length + j, h1, at_r h2⟩
theorem RdC.own {v : Value} {l : List Ch} (h : Own 40 v l.length (chs l)) : RdC (outB v (chs l)) v l := by
  refine ⟨funext fun H => h.lenSl, ?_⟩
  rcases h with ⟨rfl, h, _⟩ | ⟨p, rfl | rfl, _⟩
  · exact .inl (List.length_eq_zero_iff.1 h)
  · exact .inr ⟨p, _, 0, rfl, rfl⟩
  · exact .inr ⟨p, _, 0, rfl, rfl⟩
theorem law12_same_spec {v1 v2 : Value} {l : List Ch} (hO : St H Γ) (h1 : RdC Γ v1 l) (h2 : RdC Γ v2 l) (hx : l.length ≤ 1000) (hk : K (.bool true) H) : wCall P n_law12_same [v1, v2] H K := by
  apply law12_same_ok; unfold law12_same
  refine opW_i (by rw [h1.1]) ?_
  refine opW_i (by rw [h2.1]) ?_
  repeat (first | refine opP_i (bin_addi (by omega) (by omega)) ?_ | refine opP_i (bin_subi (by omega) (by omega)) ?_ | refine opP_i nilCheck_ptr ?_ | refine opP_i offPtr_ptr ?_ | refine opP_i bin_eql ?_ | refine opP_i bin_neq ?_ | refine opP_i bin_lss ?_ | refine opP_i bin_gtr ?_ | refine opP_i bin_leq ?_ | refine opP_i bin_geq ?_ | refine opP_i un_not ?_ | refine opP_i pick_true ?_ | refine opP_i pick_false ?_ | refine opP_i (pick_yes (by first | assumption | omega)) ?_ | refine opP_i (pick_no (by first | assumption | omega)) ?_ | refine opP_i (idxSl_ok (by omega) (by omega)) ?_ | refine opP_i (idxPtr_ok (by omega) (by omega)) ?_ | refine opW_i lenSl_sl ?_ | refine opW_i min_w ?_ | refine opW_i max_w ?_ | refine load_at hO 0 rfl rfl ?_ | refine load_at hO 1 rfl rfl ?_ | refine load_at hO 2 rfl rfl ?_ | refine load_at hO 3 rfl rfl ?_ | refine load_at hO 4 rfl rfl ?_ | refine load_at hO 5 rfl rfl ?_ | refine load_at hO 6 rfl rfl ?_ | refine load_at hO 7 rfl rfl ?_ | refine load_at hO 8 rfl rfl ?_ | refine load_at hO 9 rfl rfl ?_ | refine wIf_yes (by first | assumption | omega) ?_ | refine wIf_no (by first | assumption | omega) ?_ | refine wIf_t rfl ?_ | refine wIf_f rfl ?_ | refine cond_yes rfl ?_ | refine cond_no rfl ?_)
  refine opW_i (by rw [h1.1]) ?_
  refine law12_same_L0_ind (fun k l' H' => H' = H ∧ ∃ y : Nat, y ≤ l.length ∧ k = l.length - y ∧ l' = [v1, v2, .bool false, int l.length, int y]) _ _ ?_ l.length _ _ ⟨rfl, 0, by omega, rfl, rfl⟩
  rintro k l' H' ⟨rfl, y, hy, rfl, rfl⟩
  unfold law12_same_L0
  try simp only [nth_zero, nth_succ]
  repeat (first | refine opP_i (bin_addi (by omega) (by omega)) ?_ | refine opP_i (bin_subi (by omega) (by omega)) ?_ | refine opP_i nilCheck_ptr ?_ | refine opP_i offPtr_ptr ?_ | refine opP_i bin_eql ?_ | refine opP_i bin_neq ?_ | refine opP_i bin_lss ?_ | refine opP_i bin_gtr ?_ | refine opP_i bin_leq ?_ | refine opP_i bin_geq ?_ | refine opP_i un_not ?_ | refine opP_i pick_true ?_ | refine opP_i pick_false ?_ | refine opP_i (pick_yes (by first | assumption | omega)) ?_ | refine opP_i (pick_no (by first | assumption | omega)) ?_ | refine opP_i (idxSl_ok (by omega) (by omega)) ?_ | refine opP_i (idxPtr_ok (by omega) (by omega)) ?_ | refine opW_i lenSl_sl ?_ | refine opW_i min_w ?_ | refine opW_i max_w ?_ | refine load_at hO 0 rfl rfl ?_ | refine load_at hO 1 rfl rfl ?_ | refine load_at hO 2 rfl rfl ?_ | refine load_at hO 3 rfl rfl ?_ | refine load_at hO 4 rfl rfl ?_ | refine load_at hO 5 rfl rfl ?_ | refine load_at hO 6 rfl rfl ?_ | refine load_at hO 7 rfl rfl ?_ | refine load_at hO 8 rfl rfl ?_ | refine load_at hO 9 rfl rfl ?_ | refine wIf_yes (by first | assumption | omega) ?_ | refine wIf_no (by first | assumption | omega) ?_ | refine wIf_t rfl ?_ | refine wIf_f rfl ?_ | refine cond_yes rfl ?_ | refine cond_no rfl ?_)
  refine wIf_dec (fun h => ?_) (fun h => ?_)
  · rcases h1.2 with rfl | ⟨p, c, j, rfl, hj⟩
    · simp at h; omega
    rcases h2.2 with rfl | ⟨p2, c2, j2, rfl, hj2⟩
    · simp at h; omega
    have hyl : y < l.length := by omega
    have e : 0 + ((y : Nat) : Int).toNat * 40 = y * 40 := by rw [Int.toNat_natCast]; omega
    repeat (first | refine opP_i (bin_addi (by omega) (by omega)) ?_ | refine opP_i (bin_subi (by omega) (by omega)) ?_ | refine opP_i nilCheck_ptr ?_ | refine opP_i offPtr_ptr ?_ | refine opP_i bin_eql ?_ | refine opP_i bin_neq ?_ | refine opP_i bin_lss ?_ | refine opP_i bin_gtr ?_ | refine opP_i bin_leq ?_ | refine opP_i bin_geq ?_ | refine opP_i un_not ?_ | refine opP_i pick_true ?_ | refine opP_i pick_false ?_ | refine opP_i (pick_yes (by first | assumption | omega)) ?_ | refine opP_i (pick_no (by first | assumption | omega)) ?_ | refine opP_i (idxSl_ok (by omega) (by omega)) ?_ | refine opP_i (idxPtr_ok (by omega) (by omega)) ?_ | refine opW_i lenSl_sl ?_ | refine opW_i min_w ?_ | refine opW_i max_w ?_ | refine load_at hO 0 rfl rfl ?_ | refine load_at hO 1 rfl rfl ?_ | refine load_at hO 2 rfl rfl ?_ | refine load_at hO 3 rfl rfl ?_ | refine load_at hO 4 rfl rfl ?_ | refine load_at hO 5 rfl rfl ?_ | refine load_at hO 6 rfl rfl ?_ | refine load_at hO 7 rfl rfl ?_ | refine load_at hO 8 rfl rfl ?_ | refine load_at hO 9 rfl rfl ?_ | refine wIf_yes (by first | assumption | omega) ?_ | refine wIf_no (by first | assumption | omega) ?_ | refine wIf_t rfl ?_ | refine wIf_f rfl ?_ | refine cond_yes rfl ?_ | refine cond_no rfl ?_)
    refine loadAgg_at hO j hj (show _ = chC l[y] from ?_) rfl (by omega) ?_
    · rw [e]; exact chs_at l y hyl
    repeat (first | refine opP_i (bin_addi (by omega) (by omega)) ?_ | refine opP_i (bin_subi (by omega) (by omega)) ?_ | refine opP_i nilCheck_ptr ?_ | refine opP_i offPtr_ptr ?_ | refine opP_i bin_eql ?_ | refine opP_i bin_neq ?_ | refine opP_i bin_lss ?_ | refine opP_i bin_gtr ?_ | refine opP_i bin_leq ?_ | refine opP_i bin_geq ?_ | refine opP_i un_not ?_ | refine opP_i pick_true ?_ | refine opP_i pick_false ?_ | refine opP_i (pick_yes (by first | assumption | omega)) ?_ | refine opP_i (pick_no (by first | assumption | omega)) ?_ | refine opP_i (idxSl_ok (by omega) (by omega)) ?_ | refine opP_i (idxPtr_ok (by omega) (by omega)) ?_ | refine opW_i lenSl_sl ?_ | refine opW_i min_w ?_ | refine opW_i max_w ?_ | refine load_at hO 0 rfl rfl ?_ | refine load_at hO 1 rfl rfl ?_ | refine load_at hO 2 rfl rfl ?_ | refine load_at hO 3 rfl rfl ?_ | refine load_at hO 4 rfl rfl ?_ | refine load_at hO 5 rfl rfl ?_ | refine load_at hO 6 rfl rfl ?_ | refine load_at hO 7 rfl rfl ?_ | refine load_at hO 8 rfl rfl ?_ | refine load_at hO 9 rfl rfl ?_ | refine wIf_yes (by first | assumption | omega) ?_ | refine wIf_no (by first | assumption | omega) ?_ | refine wIf_t rfl ?_ | refine wIf_f rfl ?_ | refine cond_yes rfl ?_ | refine cond_no rfl ?_)
    refine loadAgg_at hO j2 hj2 (show _ = chC l[y] from ?_) rfl (by omega) ?_
    · rw [e]; exact chs_at l y hyl
    refine opP_i (bin_neq_f f58 (by kernel_rfl) (by kernel_rfl) (fitC _) (fitC _)) ?_
    refine wIf_f (by rw [eqCells_self (fitC _)]; rfl) ?_
    repeat (first | refine opP_i (bin_addi (by omega) (by omega)) ?_ | refine opP_i (bin_subi (by omega) (by omega)) ?_ | refine opP_i nilCheck_ptr ?_ | refine opP_i offPtr_ptr ?_ | refine opP_i bin_eql ?_ | refine opP_i bin_neq ?_ | refine opP_i bin_lss ?_ | refine opP_i bin_gtr ?_ | refine opP_i bin_leq ?_ | refine opP_i bin_geq ?_ | refine opP_i un_not ?_ | refine opP_i pick_true ?_ | refine opP_i pick_false ?_ | refine opP_i (pick_yes (by first | assumption | omega)) ?_ | refine opP_i (pick_no (by first | assumption | omega)) ?_ | refine opP_i (idxSl_ok (by omega) (by omega)) ?_ | refine opP_i (idxPtr_ok (by omega) (by omega)) ?_ | refine opW_i lenSl_sl ?_ | refine opW_i min_w ?_ | refine opW_i max_w ?_ | refine load_at hO 0 rfl rfl ?_ | refine load_at hO 1 rfl rfl ?_ | refine load_at hO 2 rfl rfl ?_ | refine load_at hO 3 rfl rfl ?_ | refine load_at hO 4 rfl rfl ?_ | refine load_at hO 5 rfl rfl ?_ | refine load_at hO 6 rfl rfl ?_ | refine load_at hO 7 rfl rfl ?_ | refine load_at hO 8 rfl rfl ?_ | refine load_at hO 9 rfl rfl ?_ | refine wIf_yes (by first | assumption | omega) ?_ | refine wIf_no (by first | assumption | omega) ?_ | refine wIf_t rfl ?_ | refine wIf_f rfl ?_ | refine cond_yes rfl ?_ | refine cond_no rfl ?_)
    exact ⟨_, by omega, rfl, y + 1, by omega, rfl, rfl⟩
  · repeat (first | refine opP_i (bin_addi (by omega) (by omega)) ?_ | refine opP_i (bin_subi (by omega) (by omega)) ?_ | refine opP_i nilCheck_ptr ?_ | refine opP_i offPtr_ptr ?_ | refine opP_i bin_eql ?_ | refine opP_i bin_neq ?_ | refine opP_i bin_lss ?_ | refine opP_i bin_gtr ?_ | refine opP_i bin_leq ?_ | refine opP_i bin_geq ?_ | refine opP_i un_not ?_ | refine opP_i pick_true ?_ | refine opP_i pick_false ?_ | refine opP_i (pick_yes (by first | assumption | omega)) ?_ | refine opP_i (pick_no (by first | assumption | omega)) ?_ | refine opP_i (idxSl_ok (by omega) (by omega)) ?_ | refine opP_i (idxPtr_ok (by omega) (by omega)) ?_ | refine opW_i lenSl_sl ?_ | refine opW_i min_w ?_ | refine opW_i max_w ?_ | refine load_at hO 0 rfl rfl ?_ | refine load_at hO 1 rfl rfl ?_ | refine load_at hO 2 rfl rfl ?_ | refine load_at hO 3 rfl rfl ?_ | refine load_at hO 4 rfl rfl ?_ | refine load_at hO 5 rfl rfl ?_ | refine load_at hO 6 rfl rfl ?_ | refine load_at hO 7 rfl rfl ?_ | refine load_at hO 8 rfl rfl ?_ | refine load_at hO 9 rfl rfl ?_ | refine wIf_yes (by first | assumption | omega) ?_ | refine wIf_no (by first | assumption | omega) ?_ | refine wIf_t rfl ?_ | refine wIf_f rfl ?_ | refine cond_yes rfl ?_ | refine cond_no rfl ?_)
    exact hk
theorem tWipe_len : (tWipe t).1.length ≤ 1000 := by unfold tWipe; split <;> simp
theorem tLand_len {i : Int} {s : Sl} : (tLand t i s).1.length ≤ 1000 := by unfold tLand; split <;> simp
theorem tGood_len {i : Int} : (tGood t i).1.length ≤ 1000 := by unfold tGood; split; (split; simp; (split <;> simp)); simp
theorem tBad_len {i : Int} : (tBad t i).1.length ≤ 1000 := by unfold tBad; split; (split; simp; (split; (split <;> simp); simp)); simp
theorem plans_main (hO : St H Γ) : wCall P n_law12_BootPlans [agg (tbC t)] H fun v _ => v = .bool true := by
  apply law12_BootPlans_ok; unfold law12_BootPlans
  refine new_at hO ?_
  intro p H hO
  refine law12_bootAlive_spec ?_
  repeat (first | refine opP_i (bin_addi (by omega) (by omega)) ?_ | refine opP_i (bin_subi (by omega) (by omega)) ?_ | refine opP_i nilCheck_ptr ?_ | refine opP_i offPtr_ptr ?_ | refine opP_i bin_eql ?_ | refine opP_i bin_neq ?_ | refine opP_i bin_lss ?_ | refine opP_i bin_gtr ?_ | refine opP_i bin_leq ?_ | refine opP_i bin_geq ?_ | refine opP_i un_not ?_ | refine opP_i pick_true ?_ | refine opP_i pick_false ?_ | refine opP_i (pick_yes (by first | assumption | omega)) ?_ | refine opP_i (pick_no (by first | assumption | omega)) ?_ | refine opP_i (idxSl_ok (by omega) (by omega)) ?_ | refine opP_i (idxPtr_ok (by omega) (by omega)) ?_ | refine opW_i lenSl_sl ?_ | refine opW_i min_w ?_ | refine opW_i max_w ?_ | refine load_at hO 0 rfl rfl ?_ | refine load_at hO 1 rfl rfl ?_ | refine load_at hO 2 rfl rfl ?_ | refine load_at hO 3 rfl rfl ?_ | refine load_at hO 4 rfl rfl ?_ | refine load_at hO 5 rfl rfl ?_ | refine load_at hO 6 rfl rfl ?_ | refine load_at hO 7 rfl rfl ?_ | refine load_at hO 8 rfl rfl ?_ | refine load_at hO 9 rfl rfl ?_ | refine wIf_yes (by first | assumption | omega) ?_ | refine wIf_no (by first | assumption | omega) ?_ | refine wIf_t rfl ?_ | refine wIf_f rfl ?_ | refine cond_yes rfl ?_ | refine cond_no rfl ?_)
  refine loadAll_at hO (Γ.length + 0) (at_r rfl) rfl (by omega) ?_
  refine boot_Plan_spec hO ?_
  intro H v1 hO o1
  refine opP_i ext0 ?_
  refine opP_i ext1 ?_
  refine loadAll_at hO (Γ.length + 0) (at_l (at_r rfl)) rfl (by omega) ?_
  refine ref12_Plan_spec hO ?_
  intro H v2 hO o2
  refine opP_i ext0 ?_
  refine opP_i ext1 ?_
  refine loadAll_at hO (Γ.length + 0) (at_l (at_l (at_r rfl))) rfl (by omega) ?_
  refine boot_Wipe_spec hO ?_
  intro H v3 hO o3
  refine opP_i ext0 ?_
  refine opP_i ext1 ?_
  refine loadAll_at hO (Γ.length + 0) (at_l (at_l (at_l (at_r rfl)))) rfl (by omega) ?_
  refine ref12_Wipe_spec hO ?_
  intro H v4 hO o4
  refine opP_i ext0 ?_
  refine opP_i ext1 ?_
  repeat (first | refine opP_i (bin_addi (by omega) (by omega)) ?_ | refine opP_i (bin_subi (by omega) (by omega)) ?_ | refine opP_i nilCheck_ptr ?_ | refine opP_i offPtr_ptr ?_ | refine opP_i bin_eql ?_ | refine opP_i bin_neq ?_ | refine opP_i bin_lss ?_ | refine opP_i bin_gtr ?_ | refine opP_i bin_leq ?_ | refine opP_i bin_geq ?_ | refine opP_i un_not ?_ | refine opP_i pick_true ?_ | refine opP_i pick_false ?_ | refine opP_i (pick_yes (by first | assumption | omega)) ?_ | refine opP_i (pick_no (by first | assumption | omega)) ?_ | refine opP_i (idxSl_ok (by omega) (by omega)) ?_ | refine opP_i (idxPtr_ok (by omega) (by omega)) ?_ | refine opW_i lenSl_sl ?_ | refine opW_i min_w ?_ | refine opW_i max_w ?_ | refine load_at hO 0 rfl rfl ?_ | refine load_at hO 1 rfl rfl ?_ | refine load_at hO 2 rfl rfl ?_ | refine load_at hO 3 rfl rfl ?_ | refine load_at hO 4 rfl rfl ?_ | refine load_at hO 5 rfl rfl ?_ | refine load_at hO 6 rfl rfl ?_ | refine load_at hO 7 rfl rfl ?_ | refine load_at hO 8 rfl rfl ?_ | refine load_at hO 9 rfl rfl ?_ | refine wIf_yes (by first | assumption | omega) ?_ | refine wIf_no (by first | assumption | omega) ?_ | refine wIf_t rfl ?_ | refine wIf_f rfl ?_ | refine cond_yes rfl ?_ | refine cond_no rfl ?_)
  have r1 := (RdC.own o1).app' (Γ := Γ ++ [(p, (⟨tbC t, true⟩ : Blk))])
  have r2 := (RdC.own o2).app' (Γ := (Γ ++ [(p, (⟨tbC t, true⟩ : Blk))]) ++ outB v1 (chs (tPlan t)))
  have r3 := (RdC.own o3).app' (Γ := ((Γ ++ [(p, (⟨tbC t, true⟩ : Blk))]) ++ outB v1 (chs (tPlan t))) ++ outB v2 (chs (tPlan t)))
  have r4 := (RdC.own o4).app' (Γ := (((Γ ++ [(p, (⟨tbC t, true⟩ : Blk))]) ++ outB v1 (chs (tPlan t))) ++ outB v2 (chs (tPlan t))) ++ outB v3 (chs (tWipe t).1))
  refine law12_same_spec hO r1.app.app.app r2.app.app (by have := tPlan_len (t := t); omega) ?_
  repeat (first | refine opP_i (bin_addi (by omega) (by omega)) ?_ | refine opP_i (bin_subi (by omega) (by omega)) ?_ | refine opP_i nilCheck_ptr ?_ | refine opP_i offPtr_ptr ?_ | refine opP_i bin_eql ?_ | refine opP_i bin_neq ?_ | refine opP_i bin_lss ?_ | refine opP_i bin_gtr ?_ | refine opP_i bin_leq ?_ | refine opP_i bin_geq ?_ | refine opP_i un_not ?_ | refine opP_i pick_true ?_ | refine opP_i pick_false ?_ | refine opP_i (pick_yes (by first | assumption | omega)) ?_ | refine opP_i (pick_no (by first | assumption | omega)) ?_ | refine opP_i (idxSl_ok (by omega) (by omega)) ?_ | refine opP_i (idxPtr_ok (by omega) (by omega)) ?_ | refine opW_i lenSl_sl ?_ | refine opW_i min_w ?_ | refine opW_i max_w ?_ | refine load_at hO 0 rfl rfl ?_ | refine load_at hO 1 rfl rfl ?_ | refine load_at hO 2 rfl rfl ?_ | refine load_at hO 3 rfl rfl ?_ | refine load_at hO 4 rfl rfl ?_ | refine load_at hO 5 rfl rfl ?_ | refine load_at hO 6 rfl rfl ?_ | refine load_at hO 7 rfl rfl ?_ | refine load_at hO 8 rfl rfl ?_ | refine load_at hO 9 rfl rfl ?_ | refine wIf_yes (by first | assumption | omega) ?_ | refine wIf_no (by first | assumption | omega) ?_ | refine wIf_t rfl ?_ | refine wIf_f rfl ?_ | refine cond_yes rfl ?_ | refine cond_no rfl ?_)
  have g0 : ((((Γ ++ [(p, (⟨tbC t, true⟩ : Blk))]) ++ outB v1 (chs (tPlan t))) ++ outB v2 (chs (tPlan t))) ++ outB v3 (chs (tWipe t).1) ++ outB v4 (chs (tWipe t).1))[Γ.length + 0]? = some (p, ⟨tbC t, true⟩) := at_l (at_l (at_l (at_l (at_r rfl))))
  refine loadAll_at hO _ g0 rfl (by omega) ?_
  refine boot_Pick_spec hO ?_
  intro H' hO'
  refine loadAll_at hO' _ g0 rfl (by omega) ?_
  refine ⟨same_at hO _ g0 hO' _ g0 (tb_simple t), ?_⟩
  refine ref12_Pick_spec hO' ?_
  intro H hO
  repeat (first | refine opP_i (bin_addi (by omega) (by omega)) ?_ | refine opP_i (bin_subi (by omega) (by omega)) ?_ | refine opP_i nilCheck_ptr ?_ | refine opP_i offPtr_ptr ?_ | refine opP_i bin_eql ?_ | refine opP_i bin_neq ?_ | refine opP_i bin_lss ?_ | refine opP_i bin_gtr ?_ | refine opP_i bin_leq ?_ | refine opP_i bin_geq ?_ | refine opP_i un_not ?_ | refine opP_i pick_true ?_ | refine opP_i pick_false ?_ | refine opP_i (pick_yes (by first | assumption | omega)) ?_ | refine opP_i (pick_no (by first | assumption | omega)) ?_ | refine opP_i (idxSl_ok (by omega) (by omega)) ?_ | refine opP_i (idxPtr_ok (by omega) (by omega)) ?_ | refine opW_i lenSl_sl ?_ | refine opW_i min_w ?_ | refine opW_i max_w ?_ | refine load_at hO 0 rfl rfl ?_ | refine load_at hO 1 rfl rfl ?_ | refine load_at hO 2 rfl rfl ?_ | refine load_at hO 3 rfl rfl ?_ | refine load_at hO 4 rfl rfl ?_ | refine load_at hO 5 rfl rfl ?_ | refine load_at hO 6 rfl rfl ?_ | refine load_at hO 7 rfl rfl ?_ | refine load_at hO 8 rfl rfl ?_ | refine load_at hO 9 rfl rfl ?_ | refine wIf_yes (by first | assumption | omega) ?_ | refine wIf_no (by first | assumption | omega) ?_ | refine wIf_t rfl ?_ | refine wIf_f rfl ?_ | refine cond_yes rfl ?_ | refine cond_no rfl ?_)
  refine loadAll_at hO _ g0 rfl (by omega) ?_
  refine boot_Aim_spec hO ?_
  intro H' hO'
  refine loadAll_at hO' _ g0 rfl (by omega) ?_
  refine ⟨same_at hO _ g0 hO' _ g0 (tb_simple t), ?_⟩
  refine ref12_Aim_spec hO' ?_
  intro H hO
  repeat (first | refine opP_i (bin_addi (by omega) (by omega)) ?_ | refine opP_i (bin_subi (by omega) (by omega)) ?_ | refine opP_i nilCheck_ptr ?_ | refine opP_i offPtr_ptr ?_ | refine opP_i bin_eql ?_ | refine opP_i bin_neq ?_ | refine opP_i bin_lss ?_ | refine opP_i bin_gtr ?_ | refine opP_i bin_leq ?_ | refine opP_i bin_geq ?_ | refine opP_i un_not ?_ | refine opP_i pick_true ?_ | refine opP_i pick_false ?_ | refine opP_i (pick_yes (by first | assumption | omega)) ?_ | refine opP_i (pick_no (by first | assumption | omega)) ?_ | refine opP_i (idxSl_ok (by omega) (by omega)) ?_ | refine opP_i (idxPtr_ok (by omega) (by omega)) ?_ | refine opW_i lenSl_sl ?_ | refine opW_i min_w ?_ | refine opW_i max_w ?_ | refine load_at hO 0 rfl rfl ?_ | refine load_at hO 1 rfl rfl ?_ | refine load_at hO 2 rfl rfl ?_ | refine load_at hO 3 rfl rfl ?_ | refine load_at hO 4 rfl rfl ?_ | refine load_at hO 5 rfl rfl ?_ | refine load_at hO 6 rfl rfl ?_ | refine load_at hO 7 rfl rfl ?_ | refine load_at hO 8 rfl rfl ?_ | refine load_at hO 9 rfl rfl ?_ | refine wIf_yes (by first | assumption | omega) ?_ | refine wIf_no (by first | assumption | omega) ?_ | refine wIf_t rfl ?_ | refine wIf_f rfl ?_ | refine cond_yes rfl ?_ | refine cond_no rfl ?_)
  refine law12_same_spec hO r3.app r4 tWipe_len ?_
  repeat (first | refine opP_i (bin_addi (by omega) (by omega)) ?_ | refine opP_i (bin_subi (by omega) (by omega)) ?_ | refine opP_i nilCheck_ptr ?_ | refine opP_i offPtr_ptr ?_ | refine opP_i bin_eql ?_ | refine opP_i bin_neq ?_ | refine opP_i bin_lss ?_ | refine opP_i bin_gtr ?_ | refine opP_i bin_leq ?_ | refine opP_i bin_geq ?_ | refine opP_i un_not ?_ | refine opP_i pick_true ?_ | refine opP_i pick_false ?_ | refine opP_i (pick_yes (by first | assumption | omega)) ?_ | refine opP_i (pick_no (by first | assumption | omega)) ?_ | refine opP_i (idxSl_ok (by omega) (by omega)) ?_ | refine opP_i (idxPtr_ok (by omega) (by omega)) ?_ | refine opW_i lenSl_sl ?_ | refine opW_i min_w ?_ | refine opW_i max_w ?_ | refine load_at hO 0 rfl rfl ?_ | refine load_at hO 1 rfl rfl ?_ | refine load_at hO 2 rfl rfl ?_ | refine load_at hO 3 rfl rfl ?_ | refine load_at hO 4 rfl rfl ?_ | refine load_at hO 5 rfl rfl ?_ | refine load_at hO 6 rfl rfl ?_ | refine load_at hO 7 rfl rfl ?_ | refine load_at hO 8 rfl rfl ?_ | refine load_at hO 9 rfl rfl ?_ | refine wIf_yes (by first | assumption | omega) ?_ | refine wIf_no (by first | assumption | omega) ?_ | refine wIf_t rfl ?_ | refine wIf_f rfl ?_ | refine cond_yes rfl ?_ | refine cond_no rfl ?_)
  simp
theorem says_main {i : Int} {s : Sl} (hO : St H Γ) : wCall P n_law12_BootSays [agg (tbC t), int i, agg (slC s)] H fun v _ => v = .bool true := by
  apply law12_BootSays_ok; unfold law12_BootSays
  refine new_at hO ?_
  intro p H hO
  refine new_at hO ?_
  intro p2 H hO
  rw [List.append_assoc] at hO
  have hO : St H (Γ ++ [(p, ⟨tbC t, true⟩), (p2, ⟨slC s, true⟩)]) := hO
  have g0 : (Γ ++ [(p, (⟨tbC t, true⟩ : Blk)), (p2, ⟨slC s, true⟩)])[Γ.length + 0]? = some (p, ⟨tbC t, true⟩) := at_r rfl
  have g1 : (Γ ++ [(p, (⟨tbC t, true⟩ : Blk)), (p2, ⟨slC s, true⟩)])[Γ.length + 1]? = some (p2, ⟨slC s, true⟩) := at_r rfl
  generalize Γ ++ [(p, (⟨tbC t, true⟩ : Blk)), (p2, ⟨slC s, true⟩)] = Γ' at *
  refine law12_bootAlive_spec ?_
  repeat (first | refine opP_i (bin_addi (by omega) (by omega)) ?_ | refine opP_i (bin_subi (by omega) (by omega)) ?_ | refine opP_i nilCheck_ptr ?_ | refine opP_i offPtr_ptr ?_ | refine opP_i bin_eql ?_ | refine opP_i bin_neq ?_ | refine opP_i bin_lss ?_ | refine opP_i bin_gtr ?_ | refine opP_i bin_leq ?_ | refine opP_i bin_geq ?_ | refine opP_i un_not ?_ | refine opP_i pick_true ?_ | refine opP_i pick_false ?_ | refine opP_i (pick_yes (by first | assumption | omega)) ?_ | refine opP_i (pick_no (by first | assumption | omega)) ?_ | refine opP_i (idxSl_ok (by omega) (by omega)) ?_ | refine opP_i (idxPtr_ok (by omega) (by omega)) ?_ | refine opW_i lenSl_sl ?_ | refine opW_i min_w ?_ | refine opW_i max_w ?_ | refine load_at hO 0 rfl rfl ?_ | refine load_at hO 1 rfl rfl ?_ | refine load_at hO 2 rfl rfl ?_ | refine load_at hO 3 rfl rfl ?_ | refine load_at hO 4 rfl rfl ?_ | refine load_at hO 5 rfl rfl ?_ | refine load_at hO 6 rfl rfl ?_ | refine load_at hO 7 rfl rfl ?_ | refine load_at hO 8 rfl rfl ?_ | refine load_at hO 9 rfl rfl ?_ | refine wIf_yes (by first | assumption | omega) ?_ | refine wIf_no (by first | assumption | omega) ?_ | refine wIf_t rfl ?_ | refine wIf_f rfl ?_ | refine cond_yes rfl ?_ | refine cond_no rfl ?_)
  refine loadAll_at hO _ g0 rfl (by omega) ?_
  refine loadAll_at hO _ g1 rfl (by omega) ?_
  refine boot_Land_spec hO ?_
  intro H v1 hO o1
  refine opP_i ext0 ?_
  refine opP_i ext1 ?_
  refine loadAll_at hO _ (at_l g0) rfl (by omega) ?_
  refine loadAll_at hO _ (at_l g1) rfl (by omega) ?_
  refine ref12_Land_spec hO ?_
  intro H v2 hO o2
  refine opP_i ext0 ?_
  refine opP_i ext1 ?_
  refine loadAll_at hO _ (at_l (at_l g0)) rfl (by omega) ?_
  refine boot_Good_spec hO ?_
  intro H v3 hO o3
  refine opP_i ext0 ?_
  refine opP_i ext1 ?_
  refine loadAll_at hO _ (at_l (at_l (at_l g0))) rfl (by omega) ?_
  refine ref12_Good_spec hO ?_
  intro H v4 hO o4
  refine opP_i ext0 ?_
  refine opP_i ext1 ?_
  refine loadAll_at hO _ (at_l (at_l (at_l (at_l g0)))) rfl (by omega) ?_
  refine boot_Bad_spec hO ?_
  intro H v5 hO o5
  refine opP_i ext0 ?_
  refine opP_i ext1 ?_
  refine loadAll_at hO _ (at_l (at_l (at_l (at_l (at_l g0))))) rfl (by omega) ?_
  refine ref12_Bad_spec hO ?_
  intro H v6 hO o6
  refine opP_i ext0 ?_
  refine opP_i ext1 ?_
  refine law12_same_spec hO (RdC.own o1).app'.app.app.app.app.app (RdC.own o2).app'.app.app.app.app tLand_len ?_
  repeat (first | refine opP_i (bin_addi (by omega) (by omega)) ?_ | refine opP_i (bin_subi (by omega) (by omega)) ?_ | refine opP_i nilCheck_ptr ?_ | refine opP_i offPtr_ptr ?_ | refine opP_i bin_eql ?_ | refine opP_i bin_neq ?_ | refine opP_i bin_lss ?_ | refine opP_i bin_gtr ?_ | refine opP_i bin_leq ?_ | refine opP_i bin_geq ?_ | refine opP_i un_not ?_ | refine opP_i pick_true ?_ | refine opP_i pick_false ?_ | refine opP_i (pick_yes (by first | assumption | omega)) ?_ | refine opP_i (pick_no (by first | assumption | omega)) ?_ | refine opP_i (idxSl_ok (by omega) (by omega)) ?_ | refine opP_i (idxPtr_ok (by omega) (by omega)) ?_ | refine opW_i lenSl_sl ?_ | refine opW_i min_w ?_ | refine opW_i max_w ?_ | refine load_at hO 0 rfl rfl ?_ | refine load_at hO 1 rfl rfl ?_ | refine load_at hO 2 rfl rfl ?_ | refine load_at hO 3 rfl rfl ?_ | refine load_at hO 4 rfl rfl ?_ | refine load_at hO 5 rfl rfl ?_ | refine load_at hO 6 rfl rfl ?_ | refine load_at hO 7 rfl rfl ?_ | refine load_at hO 8 rfl rfl ?_ | refine load_at hO 9 rfl rfl ?_ | refine wIf_yes (by first | assumption | omega) ?_ | refine wIf_no (by first | assumption | omega) ?_ | refine wIf_t rfl ?_ | refine wIf_f rfl ?_ | refine cond_yes rfl ?_ | refine cond_no rfl ?_)
  refine law12_same_spec hO (RdC.own o3).app'.app.app.app (RdC.own o4).app'.app.app tGood_len ?_
  repeat (first | refine opP_i (bin_addi (by omega) (by omega)) ?_ | refine opP_i (bin_subi (by omega) (by omega)) ?_ | refine opP_i nilCheck_ptr ?_ | refine opP_i offPtr_ptr ?_ | refine opP_i bin_eql ?_ | refine opP_i bin_neq ?_ | refine opP_i bin_lss ?_ | refine opP_i bin_gtr ?_ | refine opP_i bin_leq ?_ | refine opP_i bin_geq ?_ | refine opP_i un_not ?_ | refine opP_i pick_true ?_ | refine opP_i pick_false ?_ | refine opP_i (pick_yes (by first | assumption | omega)) ?_ | refine opP_i (pick_no (by first | assumption | omega)) ?_ | refine opP_i (idxSl_ok (by omega) (by omega)) ?_ | refine opP_i (idxPtr_ok (by omega) (by omega)) ?_ | refine opW_i lenSl_sl ?_ | refine opW_i min_w ?_ | refine opW_i max_w ?_ | refine load_at hO 0 rfl rfl ?_ | refine load_at hO 1 rfl rfl ?_ | refine load_at hO 2 rfl rfl ?_ | refine load_at hO 3 rfl rfl ?_ | refine load_at hO 4 rfl rfl ?_ | refine load_at hO 5 rfl rfl ?_ | refine load_at hO 6 rfl rfl ?_ | refine load_at hO 7 rfl rfl ?_ | refine load_at hO 8 rfl rfl ?_ | refine load_at hO 9 rfl rfl ?_ | refine wIf_yes (by first | assumption | omega) ?_ | refine wIf_no (by first | assumption | omega) ?_ | refine wIf_t rfl ?_ | refine wIf_f rfl ?_ | refine cond_yes rfl ?_ | refine cond_no rfl ?_)
  refine law12_same_spec hO (RdC.own o5).app'.app (RdC.own o6).app' tBad_len ?_
  repeat (first | refine opP_i (bin_addi (by omega) (by omega)) ?_ | refine opP_i (bin_subi (by omega) (by omega)) ?_ | refine opP_i nilCheck_ptr ?_ | refine opP_i offPtr_ptr ?_ | refine opP_i bin_eql ?_ | refine opP_i bin_neq ?_ | refine opP_i bin_lss ?_ | refine opP_i bin_gtr ?_ | refine opP_i bin_leq ?_ | refine opP_i bin_geq ?_ | refine opP_i un_not ?_ | refine opP_i pick_true ?_ | refine opP_i pick_false ?_ | refine opP_i (pick_yes (by first | assumption | omega)) ?_ | refine opP_i (pick_no (by first | assumption | omega)) ?_ | refine opP_i (idxSl_ok (by omega) (by omega)) ?_ | refine opP_i (idxPtr_ok (by omega) (by omega)) ?_ | refine opW_i lenSl_sl ?_ | refine opW_i min_w ?_ | refine opW_i max_w ?_ | refine load_at hO 0 rfl rfl ?_ | refine load_at hO 1 rfl rfl ?_ | refine load_at hO 2 rfl rfl ?_ | refine load_at hO 3 rfl rfl ?_ | refine load_at hO 4 rfl rfl ?_ | refine load_at hO 5 rfl rfl ?_ | refine load_at hO 6 rfl rfl ?_ | refine load_at hO 7 rfl rfl ?_ | refine load_at hO 8 rfl rfl ?_ | refine load_at hO 9 rfl rfl ?_ | refine wIf_yes (by first | assumption | omega) ?_ | refine wIf_no (by first | assumption | omega) ?_ | refine wIf_t rfl ?_ | refine wIf_f rfl ?_ | refine cond_yes rfl ?_ | refine cond_no rfl ?_)
  simp
end
end B
