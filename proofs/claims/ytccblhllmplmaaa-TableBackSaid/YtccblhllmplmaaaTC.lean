/- texts of the proof, one behind the other -/
import Derived.Test.YtccblhllmplmaaaTB
set_option linter.unusedVariables false
set_option maxRecDepth 100000
namespace T
open Go Go.Ab
variable {H : Heap} {Γ : List (Nat × Blk)} {K : Value → Heap → Prop}

/-! what the structs hold -/
structure Sl where
  st : Int
  tr : Int
  ver : Int
  sz : Int
  dg : Nat → Int
structure Tb where
  a : Sl
  b : Sl
  act : Int
  boo : Int
  flo : Int
structure Ch where
  kind : Int
  slot : Int
  n : Int
  to : Sl
  ver : Int
def dgC (g : Nat → Int) : List Value := [.int .u8 (g 0), .int .u8 (g 1), .int .u8 (g 2), .int .u8 (g 3), .int .u8 (g 4), .int .u8 (g 5), .int .u8 (g 6), .int .u8 (g 7), .int .u8 (g 8), .int .u8 (g 9), .int .u8 (g 10), .int .u8 (g 11), .int .u8 (g 12), .int .u8 (g 13), .int .u8 (g 14), .int .u8 (g 15), .int .u8 (g 16), .int .u8 (g 17), .int .u8 (g 18), .int .u8 (g 19), .int .u8 (g 20), .int .u8 (g 21), .int .u8 (g 22), .int .u8 (g 23), .int .u8 (g 24), .int .u8 (g 25), .int .u8 (g 26), .int .u8 (g 27), .int .u8 (g 28), .int .u8 (g 29), .int .u8 (g 30), .int .u8 (g 31)]
def slC (s : Sl) : List Value := int s.st :: int s.tr :: .int .u64 s.ver :: int s.sz :: dgC s.dg
def tbC (t : Tb) : List Value := slC t.a ++ (slC t.b ++ [int t.act, int t.boo, .int .u64 t.flo])
def chC (c : Ch) : List Value := int c.kind :: int c.slot :: int c.n :: (slC c.to ++ [.int .u64 c.ver])
def slz (st : Int) : Sl := ⟨st, 0, 0, 0, fun _ => 0⟩
abbrev agg (l : List Value) : Value := .agg l.toArray

theorem u3 : P.underlying 3 = some (.int .i64) := by kernel_rfl
theorem u4 : P.underlying 4 = some .bool := by kernel_rfl
theorem zc26 : zc P 34 = slC (slz 0) := by kernel_rfl
theorem zc58 : zc P 41 = chC ⟨0, 0, 0, slz 0, 0⟩ := by kernel_rfl
theorem b26 : (buildC P 34).f [] = some (agg (slC (slz 0))) := by kernel_rfl
theorem b26_0 (a : Int) : (buildC P 34).f [(0, int a)] = some (agg (slC (slz a))) := by kernel_rfl
theorem b24 : (buildC P 32).f [] = some (agg (dgC fun _ => 0)) := by kernel_rfl
def kD : List CK := repK 32 [.i .u8]
def kS : List CK := .i .i64 :: .i .i64 :: .i .u64 :: .i .i64 :: kD
def kC : List CK := .i .i64 :: .i .i64 :: .i .i64 :: (kS ++ [.i .u64])
theorem f24 : flatK P 100 32 = some kD := by kernel_rfl
theorem f26 : flatK P 100 34 = some kS := by kernel_rfl
theorem f58 : flatK P 100 41 = some kC := by kernel_rfl
theorem fitD (g : Nat → Int) : Fit kD (dgC g) := by
  simp only [kD, repK, dgC, Fit, fit1, List.append_nil, List.cons_append, List.nil_append, and_self, and_true]
theorem fitS (s : Sl) : Fit kS (slC s) := ⟨rfl, rfl, rfl, rfl, fitD s.dg⟩
theorem eq24 (g g' : Nat → Int) (c : Bool) : (binC P .eql 32 c).f (agg (dgC g)) (agg (dgC g')) = some (.bool (eqCells (dgC g) (dgC g'))) := bin_eql_f f24 (by kernel_rfl) (by kernel_rfl) (fitD g) (fitD g')
theorem eq26 (s s' : Sl) (c : Bool) : (binC P .eql 34 c).f (agg (slC s)) (agg (slC s')) = some (.bool (eqCells (slC s) (slC s'))) := bin_eql_f f26 (by kernel_rfl) (by kernel_rfl) (fitS s) (fitS s')

/-! a slot that can be -/
def Dz (g : Nat → Int) : Prop := eqCells (dgC g) (dgC fun _ => 0) = true
instance (g : Nat → Int) : Decidable (Dz g) := by unfold Dz; infer_instance
def SNone (s : Sl) : Prop := s.tr = 0 ∧ s.ver = 0 ∧ s.sz = 0 ∧ Dz s.dg
instance (s : Sl) : Decidable (SNone s) := by unfold SNone; infer_instance
def SImg (s : Sl) : Prop := 1 ≤ s.ver ∧ s.ver ≤ 281474976710656 ∧ 1 ≤ s.sz ∧ s.sz ≤ 65536
instance (s : Sl) : Decidable (SImg s) := by unfold SImg; infer_instance
def SRight (s : Sl) : Prop := ((s.st = 0 ∨ s.st = 1 ∨ s.st = 4) ∧ SNone s) ∨ (s.st = 2 ∧ (0 ≤ s.tr ∧ s.tr ≤ 7) ∧ SImg s) ∨ (s.st = 3 ∧ s.tr = 0 ∧ SImg s)
instance (s : Sl) : Decidable (SRight s) := by unfold SRight; infer_instance
def SFull (s : Sl) : Prop := s.st = 2 ∨ s.st = 3
instance (s : Sl) : Decidable (SFull s) := by unfold SFull; infer_instance
def SBoot (s : Sl) : Prop := SRight s ∧ (s.st = 3 ∨ (s.st = 2 ∧ 0 < s.tr))
instance (s : Sl) : Decidable (SBoot s) := by unfold SBoot; infer_instance
theorem eq_bare (s : Sl) : eqCells (slC s) (slC (slz s.st)) = decide (SNone s) := by
  show (cellEq (int s.st) (int s.st) && (cellEq (int s.tr) (int 0) && (cellEq (.int .u64 s.ver) (.int .u64 0) && (cellEq (int s.sz) (int 0) && eqCells (dgC s.dg) (dgC fun _ => 0))))) = _
  rw [Bool.eq_iff_iff, decide_eq_true_iff]
  unfold SNone Dz
  simp [cellEq]
section
variable {s : Sl}
theorem slot_Right_spec (hO : St H Γ) (hk : ∀ H', St H' Γ → K (.bool (decide (SRight s))) H') : wCall P n_slot_Right [agg (slC s)] H K := by
  apply slot_Right_ok; unfold slot_Right
  refine new_at hO ?_
  intro p H hO
  refine join_with (fun l' H' => l' = [ptr p 0] ∧ H' = H ∧ (SRight s ↔ SImg s)) ?_ ?_
  · repeat (first | refine opP_i (by first | exact qa | exact qs | exact nilCheck_ptr | exact offPtr_ptr | exact bin_eql | exact bin_neq | exact bin_lss | exact bin_gtr | exact bin_leq | exact bin_geq | exact un_not | exact pick_true | exact pick_false | exact qy | exact qn | exact qi | exact qj) ?_ | refine opW_i (by first | exact lenSl_sl | exact min_w | exact max_w) ?_ | refine wy ?_ | refine wn ?_ | refine wIf_t rfl ?_ | refine wIf_f rfl ?_ | refine cond_yes rfl ?_ | refine cond_no rfl ?_ | refine ld hO 0 rfl rfl ?_ | refine ld hO 1 rfl rfl ?_ | refine ld hO 2 rfl rfl ?_ | refine ld hO 3 rfl rfl ?_ | refine ld hO 4 rfl rfl ?_ | refine ld hO 5 rfl rfl ?_)
    refine join_with (fun l' H' => l' = [ptr p 0, int s.st, .bool (decide (s.st = 0 ∨ s.st = 1 ∨ s.st = 4))] ∧ H' = H) ?_ ?_
    · repeat (first | refine opP_i (by first | exact qa | exact qs | exact nilCheck_ptr | exact offPtr_ptr | exact bin_eql | exact bin_neq | exact bin_lss | exact bin_gtr | exact bin_leq | exact bin_geq | exact un_not | exact pick_true | exact pick_false | exact qy | exact qn | exact qi | exact qj) ?_ | refine opW_i (by first | exact lenSl_sl | exact min_w | exact max_w) ?_ | refine wy ?_ | refine wn ?_ | refine wIf_t rfl ?_ | refine wIf_f rfl ?_ | refine cond_yes rfl ?_ | refine cond_no rfl ?_ | refine ld hO 0 rfl rfl ?_ | refine ld hO 1 rfl rfl ?_ | refine ld hO 2 rfl rfl ?_ | refine ld hO 3 rfl rfl ?_ | refine ld hO 4 rfl rfl ?_ | refine ld hO 5 rfl rfl ?_)
      by_cases h : s.st = 0
      · repeat (first | refine opP_i (by first | exact qa | exact qs | exact nilCheck_ptr | exact offPtr_ptr | exact bin_eql | exact bin_neq | exact bin_lss | exact bin_gtr | exact bin_leq | exact bin_geq | exact un_not | exact pick_true | exact pick_false | exact qy | exact qn | exact qi | exact qj) ?_ | refine opW_i (by first | exact lenSl_sl | exact min_w | exact max_w) ?_ | refine wy ?_ | refine wn ?_ | refine wIf_t rfl ?_ | refine wIf_f rfl ?_ | refine cond_yes rfl ?_ | refine cond_no rfl ?_ | refine ld hO 0 rfl rfl ?_ | refine ld hO 1 rfl rfl ?_ | refine ld hO 2 rfl rfl ?_ | refine ld hO 3 rfl rfl ?_ | refine ld hO 4 rfl rfl ?_ | refine ld hO 5 rfl rfl ?_)
        rw [decide_eq_true h, decide_eq_true (show s.st = 0 ∨ s.st = 1 ∨ s.st = 4 by omega)]; exact ⟨rfl, rfl⟩
      · repeat (first | refine opP_i (by first | exact qa | exact qs | exact nilCheck_ptr | exact offPtr_ptr | exact bin_eql | exact bin_neq | exact bin_lss | exact bin_gtr | exact bin_leq | exact bin_geq | exact un_not | exact pick_true | exact pick_false | exact qy | exact qn | exact qi | exact qj) ?_ | refine opW_i (by first | exact lenSl_sl | exact min_w | exact max_w) ?_ | refine wy ?_ | refine wn ?_ | refine wIf_t rfl ?_ | refine wIf_f rfl ?_ | refine cond_yes rfl ?_ | refine cond_no rfl ?_ | refine ld hO 0 rfl rfl ?_ | refine ld hO 1 rfl rfl ?_ | refine ld hO 2 rfl rfl ?_ | refine ld hO 3 rfl rfl ?_ | refine ld hO 4 rfl rfl ?_ | refine ld hO 5 rfl rfl ?_)
        by_cases h1 : s.st = 1
        · repeat (first | refine opP_i (by first | exact qa | exact qs | exact nilCheck_ptr | exact offPtr_ptr | exact bin_eql | exact bin_neq | exact bin_lss | exact bin_gtr | exact bin_leq | exact bin_geq | exact un_not | exact pick_true | exact pick_false | exact qy | exact qn | exact qi | exact qj) ?_ | refine opW_i (by first | exact lenSl_sl | exact min_w | exact max_w) ?_ | refine wy ?_ | refine wn ?_ | refine wIf_t rfl ?_ | refine wIf_f rfl ?_ | refine cond_yes rfl ?_ | refine cond_no rfl ?_ | refine ld hO 0 rfl rfl ?_ | refine ld hO 1 rfl rfl ?_ | refine ld hO 2 rfl rfl ?_ | refine ld hO 3 rfl rfl ?_ | refine ld hO 4 rfl rfl ?_ | refine ld hO 5 rfl rfl ?_)
          rw [decide_eq_true h1, decide_eq_true (show s.st = 0 ∨ s.st = 1 ∨ s.st = 4 by omega)]; exact ⟨rfl, rfl⟩
        · repeat (first | refine opP_i (by first | exact qa | exact qs | exact nilCheck_ptr | exact offPtr_ptr | exact bin_eql | exact bin_neq | exact bin_lss | exact bin_gtr | exact bin_leq | exact bin_geq | exact un_not | exact pick_true | exact pick_false | exact qy | exact qn | exact qi | exact qj) ?_ | refine opW_i (by first | exact lenSl_sl | exact min_w | exact max_w) ?_ | refine wy ?_ | refine wn ?_ | refine wIf_t rfl ?_ | refine wIf_f rfl ?_ | refine cond_yes rfl ?_ | refine cond_no rfl ?_ | refine ld hO 0 rfl rfl ?_ | refine ld hO 1 rfl rfl ?_ | refine ld hO 2 rfl rfl ?_ | refine ld hO 3 rfl rfl ?_ | refine ld hO 4 rfl rfl ?_ | refine ld hO 5 rfl rfl ?_)
          rw [show decide (s.st = 0 ∨ s.st = 1 ∨ s.st = 4) = decide (s.st = 4) from decide_eq_decide.2 (by omega)]; exact ⟨rfl, rfl⟩
    rintro l' H' ⟨rfl, rfl⟩
    try simp only [nth_zero, nth_succ]
    refine wIf_dec (fun h => ?_) (fun h => ?_)
    · refine loadAgg_at hO (Γ.length + 0) (at_r rfl) (show _ = slC s from rfl) rfl (by omega) ?_
      repeat (first | refine opP_i (by first | exact qa | exact qs | exact nilCheck_ptr | exact offPtr_ptr | exact bin_eql | exact bin_neq | exact bin_lss | exact bin_gtr | exact bin_leq | exact bin_geq | exact un_not | exact pick_true | exact pick_false | exact qy | exact qn | exact qi | exact qj) ?_ | refine opW_i (by first | exact lenSl_sl | exact min_w | exact max_w) ?_ | refine wy ?_ | refine wn ?_ | refine wIf_t rfl ?_ | refine wIf_f rfl ?_ | refine cond_yes rfl ?_ | refine cond_no rfl ?_ | refine ld hO 0 rfl rfl ?_ | refine ld hO 1 rfl rfl ?_ | refine ld hO 2 rfl rfl ?_ | refine ld hO 3 rfl rfl ?_ | refine ld hO 4 rfl rfl ?_ | refine ld hO 5 rfl rfl ?_)
      refine opP_i (b26_0 _) ?_
      refine opP_i (eq26 _ _ _) ?_
      rw [eq_bare]
      rw [show decide (SRight s) = decide (SNone s) from decide_eq_decide.2 (by unfold SRight; constructor; (rintro (⟨_, h⟩ | ⟨h, _⟩ | ⟨h, _⟩); exact h; omega; omega); exact fun h2 => .inl ⟨h, h2⟩)] at hk
      exact hk _ hO.left
    · repeat (first | refine opP_i (by first | exact qa | exact qs | exact nilCheck_ptr | exact offPtr_ptr | exact bin_eql | exact bin_neq | exact bin_lss | exact bin_gtr | exact bin_leq | exact bin_geq | exact un_not | exact pick_true | exact pick_false | exact qy | exact qn | exact qi | exact qj) ?_ | refine opW_i (by first | exact lenSl_sl | exact min_w | exact max_w) ?_ | refine wy ?_ | refine wn ?_ | refine wIf_t rfl ?_ | refine wIf_f rfl ?_ | refine cond_yes rfl ?_ | refine cond_no rfl ?_ | refine ld hO 0 rfl rfl ?_ | refine ld hO 1 rfl rfl ?_ | refine ld hO 2 rfl rfl ?_ | refine ld hO 3 rfl rfl ?_ | refine ld hO 4 rfl rfl ?_ | refine ld hO 5 rfl rfl ?_)
      have hn : SRight s ↔ (s.st = 2 ∧ (0 ≤ s.tr ∧ s.tr ≤ 7) ∧ SImg s) ∨ (s.st = 3 ∧ s.tr = 0 ∧ SImg s) := by
        unfold SRight; constructor
        · rintro (⟨h2, _⟩ | h2)
          · exact absurd h2 h
          · exact h2
        · exact .inr
      by_cases h2 : s.st = 2
      · repeat (first | refine opP_i (by first | exact qa | exact qs | exact nilCheck_ptr | exact offPtr_ptr | exact bin_eql | exact bin_neq | exact bin_lss | exact bin_gtr | exact bin_leq | exact bin_geq | exact un_not | exact pick_true | exact pick_false | exact qy | exact qn | exact qi | exact qj) ?_ | refine opW_i (by first | exact lenSl_sl | exact min_w | exact max_w) ?_ | refine wy ?_ | refine wn ?_ | refine wIf_t rfl ?_ | refine wIf_f rfl ?_ | refine cond_yes rfl ?_ | refine cond_no rfl ?_ | refine ld hO 0 rfl rfl ?_ | refine ld hO 1 rfl rfl ?_ | refine ld hO 2 rfl rfl ?_ | refine ld hO 3 rfl rfl ?_ | refine ld hO 4 rfl rfl ?_ | refine ld hO 5 rfl rfl ?_)
        have hn2 : SRight s ↔ ((0 ≤ s.tr ∧ s.tr ≤ 7) ∧ SImg s) := by
          rw [hn]; constructor
          · rintro (⟨_, h⟩ | ⟨h, _⟩)
            · exact h
            · omega
          · exact fun h => .inl ⟨h2, h⟩
        by_cases h3 : s.tr < 0
        · repeat (first | refine opP_i (by first | exact qa | exact qs | exact nilCheck_ptr | exact offPtr_ptr | exact bin_eql | exact bin_neq | exact bin_lss | exact bin_gtr | exact bin_leq | exact bin_geq | exact un_not | exact pick_true | exact pick_false | exact qy | exact qn | exact qi | exact qj) ?_ | refine opW_i (by first | exact lenSl_sl | exact min_w | exact max_w) ?_ | refine wy ?_ | refine wn ?_ | refine wIf_t rfl ?_ | refine wIf_f rfl ?_ | refine cond_yes rfl ?_ | refine cond_no rfl ?_ | refine ld hO 0 rfl rfl ?_ | refine ld hO 1 rfl rfl ?_ | refine ld hO 2 rfl rfl ?_ | refine ld hO 3 rfl rfl ?_ | refine ld hO 4 rfl rfl ?_ | refine ld hO 5 rfl rfl ?_)
          rw [decide_eq_false (show ¬ SRight s by rw [hn2]; omega)] at hk
          exact hk _ hO.left
        · repeat (first | refine opP_i (by first | exact qa | exact qs | exact nilCheck_ptr | exact offPtr_ptr | exact bin_eql | exact bin_neq | exact bin_lss | exact bin_gtr | exact bin_leq | exact bin_geq | exact un_not | exact pick_true | exact pick_false | exact qy | exact qn | exact qi | exact qj) ?_ | refine opW_i (by first | exact lenSl_sl | exact min_w | exact max_w) ?_ | refine wy ?_ | refine wn ?_ | refine wIf_t rfl ?_ | refine wIf_f rfl ?_ | refine cond_yes rfl ?_ | refine cond_no rfl ?_ | refine ld hO 0 rfl rfl ?_ | refine ld hO 1 rfl rfl ?_ | refine ld hO 2 rfl rfl ?_ | refine ld hO 3 rfl rfl ?_ | refine ld hO 4 rfl rfl ?_ | refine ld hO 5 rfl rfl ?_)
          by_cases h4 : 7 < s.tr
          · repeat (first | refine opP_i (by first | exact qa | exact qs | exact nilCheck_ptr | exact offPtr_ptr | exact bin_eql | exact bin_neq | exact bin_lss | exact bin_gtr | exact bin_leq | exact bin_geq | exact un_not | exact pick_true | exact pick_false | exact qy | exact qn | exact qi | exact qj) ?_ | refine opW_i (by first | exact lenSl_sl | exact min_w | exact max_w) ?_ | refine wy ?_ | refine wn ?_ | refine wIf_t rfl ?_ | refine wIf_f rfl ?_ | refine cond_yes rfl ?_ | refine cond_no rfl ?_ | refine ld hO 0 rfl rfl ?_ | refine ld hO 1 rfl rfl ?_ | refine ld hO 2 rfl rfl ?_ | refine ld hO 3 rfl rfl ?_ | refine ld hO 4 rfl rfl ?_ | refine ld hO 5 rfl rfl ?_)
            rw [decide_eq_false (show ¬ SRight s by rw [hn2]; omega)] at hk
            exact hk _ hO.left
          · repeat (first | refine opP_i (by first | exact qa | exact qs | exact nilCheck_ptr | exact offPtr_ptr | exact bin_eql | exact bin_neq | exact bin_lss | exact bin_gtr | exact bin_leq | exact bin_geq | exact un_not | exact pick_true | exact pick_false | exact qy | exact qn | exact qi | exact qj) ?_ | refine opW_i (by first | exact lenSl_sl | exact min_w | exact max_w) ?_ | refine wy ?_ | refine wn ?_ | refine wIf_t rfl ?_ | refine wIf_f rfl ?_ | refine cond_yes rfl ?_ | refine cond_no rfl ?_ | refine ld hO 0 rfl rfl ?_ | refine ld hO 1 rfl rfl ?_ | refine ld hO 2 rfl rfl ?_ | refine ld hO 3 rfl rfl ?_ | refine ld hO 4 rfl rfl ?_ | refine ld hO 5 rfl rfl ?_)
            exact ⟨(by first | rfl | trivial), (by first | rfl | trivial), by rw [hn2]; exact ⟨fun h => h.2, fun h => ⟨by omega, h⟩⟩⟩
      · repeat (first | refine opP_i (by first | exact qa | exact qs | exact nilCheck_ptr | exact offPtr_ptr | exact bin_eql | exact bin_neq | exact bin_lss | exact bin_gtr | exact bin_leq | exact bin_geq | exact un_not | exact pick_true | exact pick_false | exact qy | exact qn | exact qi | exact qj) ?_ | refine opW_i (by first | exact lenSl_sl | exact min_w | exact max_w) ?_ | refine wy ?_ | refine wn ?_ | refine wIf_t rfl ?_ | refine wIf_f rfl ?_ | refine cond_yes rfl ?_ | refine cond_no rfl ?_ | refine ld hO 0 rfl rfl ?_ | refine ld hO 1 rfl rfl ?_ | refine ld hO 2 rfl rfl ?_ | refine ld hO 3 rfl rfl ?_ | refine ld hO 4 rfl rfl ?_ | refine ld hO 5 rfl rfl ?_)
        by_cases h3 : s.st = 3
        · repeat (first | refine opP_i (by first | exact qa | exact qs | exact nilCheck_ptr | exact offPtr_ptr | exact bin_eql | exact bin_neq | exact bin_lss | exact bin_gtr | exact bin_leq | exact bin_geq | exact un_not | exact pick_true | exact pick_false | exact qy | exact qn | exact qi | exact qj) ?_ | refine opW_i (by first | exact lenSl_sl | exact min_w | exact max_w) ?_ | refine wy ?_ | refine wn ?_ | refine wIf_t rfl ?_ | refine wIf_f rfl ?_ | refine cond_yes rfl ?_ | refine cond_no rfl ?_ | refine ld hO 0 rfl rfl ?_ | refine ld hO 1 rfl rfl ?_ | refine ld hO 2 rfl rfl ?_ | refine ld hO 3 rfl rfl ?_ | refine ld hO 4 rfl rfl ?_ | refine ld hO 5 rfl rfl ?_)
          have hn2 : SRight s ↔ (s.tr = 0 ∧ SImg s) := by
            rw [hn]; constructor
            · rintro (⟨h, _⟩ | ⟨_, h⟩)
              · omega
              · exact h
            · exact fun h => .inr ⟨h3, h⟩
          by_cases h4 : s.tr = 0
          · repeat (first | refine opP_i (by first | exact qa | exact qs | exact nilCheck_ptr | exact offPtr_ptr | exact bin_eql | exact bin_neq | exact bin_lss | exact bin_gtr | exact bin_leq | exact bin_geq | exact un_not | exact pick_true | exact pick_false | exact qy | exact qn | exact qi | exact qj) ?_ | refine opW_i (by first | exact lenSl_sl | exact min_w | exact max_w) ?_ | refine wy ?_ | refine wn ?_ | refine wIf_t rfl ?_ | refine wIf_f rfl ?_ | refine cond_yes rfl ?_ | refine cond_no rfl ?_ | refine ld hO 0 rfl rfl ?_ | refine ld hO 1 rfl rfl ?_ | refine ld hO 2 rfl rfl ?_ | refine ld hO 3 rfl rfl ?_ | refine ld hO 4 rfl rfl ?_ | refine ld hO 5 rfl rfl ?_)
            exact ⟨(by first | rfl | trivial), (by first | rfl | trivial), by rw [hn2]; exact ⟨fun h => h.2, fun h => ⟨by omega, h⟩⟩⟩
          · repeat (first | refine opP_i (by first | exact qa | exact qs | exact nilCheck_ptr | exact offPtr_ptr | exact bin_eql | exact bin_neq | exact bin_lss | exact bin_gtr | exact bin_leq | exact bin_geq | exact un_not | exact pick_true | exact pick_false | exact qy | exact qn | exact qi | exact qj) ?_ | refine opW_i (by first | exact lenSl_sl | exact min_w | exact max_w) ?_ | refine wy ?_ | refine wn ?_ | refine wIf_t rfl ?_ | refine wIf_f rfl ?_ | refine cond_yes rfl ?_ | refine cond_no rfl ?_ | refine ld hO 0 rfl rfl ?_ | refine ld hO 1 rfl rfl ?_ | refine ld hO 2 rfl rfl ?_ | refine ld hO 3 rfl rfl ?_ | refine ld hO 4 rfl rfl ?_ | refine ld hO 5 rfl rfl ?_)
            rw [decide_eq_false (show ¬ SRight s by rw [hn2]; exact fun h => h4 h.1)] at hk
            exact hk _ hO.left
        · repeat (first | refine opP_i (by first | exact qa | exact qs | exact nilCheck_ptr | exact offPtr_ptr | exact bin_eql | exact bin_neq | exact bin_lss | exact bin_gtr | exact bin_leq | exact bin_geq | exact un_not | exact pick_true | exact pick_false | exact qy | exact qn | exact qi | exact qj) ?_ | refine opW_i (by first | exact lenSl_sl | exact min_w | exact max_w) ?_ | refine wy ?_ | refine wn ?_ | refine wIf_t rfl ?_ | refine wIf_f rfl ?_ | refine cond_yes rfl ?_ | refine cond_no rfl ?_ | refine ld hO 0 rfl rfl ?_ | refine ld hO 1 rfl rfl ?_ | refine ld hO 2 rfl rfl ?_ | refine ld hO 3 rfl rfl ?_ | refine ld hO 4 rfl rfl ?_ | refine ld hO 5 rfl rfl ?_)
          rw [decide_eq_false (show ¬ SRight s by rw [hn]; rintro (⟨h, _⟩ | ⟨h, _⟩); exact h2 h; exact h3 h)] at hk
          exact hk _ hO.left
  rintro l' H' ⟨rfl, rfl, hR⟩
  rw [show decide (SRight s) = decide (SImg s) from decide_eq_decide.2 hR] at hk
  try simp only [nth_zero, nth_succ]
  repeat (first | refine opP_i (by first | exact qa | exact qs | exact nilCheck_ptr | exact offPtr_ptr | exact bin_eql | exact bin_neq | exact bin_lss | exact bin_gtr | exact bin_leq | exact bin_geq | exact un_not | exact pick_true | exact pick_false | exact qy | exact qn | exact qi | exact qj) ?_ | refine opW_i (by first | exact lenSl_sl | exact min_w | exact max_w) ?_ | refine wy ?_ | refine wn ?_ | refine wIf_t rfl ?_ | refine wIf_f rfl ?_ | refine cond_yes rfl ?_ | refine cond_no rfl ?_ | refine ld hO 0 rfl rfl ?_ | refine ld hO 1 rfl rfl ?_ | refine ld hO 2 rfl rfl ?_ | refine ld hO 3 rfl rfl ?_ | refine ld hO 4 rfl rfl ?_ | refine ld hO 5 rfl rfl ?_)
  by_cases h1 : 1 ≤ s.ver
  · repeat (first | refine opP_i (by first | exact qa | exact qs | exact nilCheck_ptr | exact offPtr_ptr | exact bin_eql | exact bin_neq | exact bin_lss | exact bin_gtr | exact bin_leq | exact bin_geq | exact un_not | exact pick_true | exact pick_false | exact qy | exact qn | exact qi | exact qj) ?_ | refine opW_i (by first | exact lenSl_sl | exact min_w | exact max_w) ?_ | refine wy ?_ | refine wn ?_ | refine wIf_t rfl ?_ | refine wIf_f rfl ?_ | refine cond_yes rfl ?_ | refine cond_no rfl ?_ | refine ld hO 0 rfl rfl ?_ | refine ld hO 1 rfl rfl ?_ | refine ld hO 2 rfl rfl ?_ | refine ld hO 3 rfl rfl ?_ | refine ld hO 4 rfl rfl ?_ | refine ld hO 5 rfl rfl ?_)
    by_cases h2 : s.ver ≤ 281474976710656
    · repeat (first | refine opP_i (by first | exact qa | exact qs | exact nilCheck_ptr | exact offPtr_ptr | exact bin_eql | exact bin_neq | exact bin_lss | exact bin_gtr | exact bin_leq | exact bin_geq | exact un_not | exact pick_true | exact pick_false | exact qy | exact qn | exact qi | exact qj) ?_ | refine opW_i (by first | exact lenSl_sl | exact min_w | exact max_w) ?_ | refine wy ?_ | refine wn ?_ | refine wIf_t rfl ?_ | refine wIf_f rfl ?_ | refine cond_yes rfl ?_ | refine cond_no rfl ?_ | refine ld hO 0 rfl rfl ?_ | refine ld hO 1 rfl rfl ?_ | refine ld hO 2 rfl rfl ?_ | refine ld hO 3 rfl rfl ?_ | refine ld hO 4 rfl rfl ?_ | refine ld hO 5 rfl rfl ?_)
      by_cases h3 : 1 ≤ s.sz
      · repeat (first | refine opP_i (by first | exact qa | exact qs | exact nilCheck_ptr | exact offPtr_ptr | exact bin_eql | exact bin_neq | exact bin_lss | exact bin_gtr | exact bin_leq | exact bin_geq | exact un_not | exact pick_true | exact pick_false | exact qy | exact qn | exact qi | exact qj) ?_ | refine opW_i (by first | exact lenSl_sl | exact min_w | exact max_w) ?_ | refine wy ?_ | refine wn ?_ | refine wIf_t rfl ?_ | refine wIf_f rfl ?_ | refine cond_yes rfl ?_ | refine cond_no rfl ?_ | refine ld hO 0 rfl rfl ?_ | refine ld hO 1 rfl rfl ?_ | refine ld hO 2 rfl rfl ?_ | refine ld hO 3 rfl rfl ?_ | refine ld hO 4 rfl rfl ?_ | refine ld hO 5 rfl rfl ?_)
        rw [show decide (SImg s) = decide (s.sz ≤ 65536) from decide_eq_decide.2 (by unfold SImg; omega)] at hk
        exact hk _ hO.left
      · repeat (first | refine opP_i (by first | exact qa | exact qs | exact nilCheck_ptr | exact offPtr_ptr | exact bin_eql | exact bin_neq | exact bin_lss | exact bin_gtr | exact bin_leq | exact bin_geq | exact un_not | exact pick_true | exact pick_false | exact qy | exact qn | exact qi | exact qj) ?_ | refine opW_i (by first | exact lenSl_sl | exact min_w | exact max_w) ?_ | refine wy ?_ | refine wn ?_ | refine wIf_t rfl ?_ | refine wIf_f rfl ?_ | refine cond_yes rfl ?_ | refine cond_no rfl ?_ | refine ld hO 0 rfl rfl ?_ | refine ld hO 1 rfl rfl ?_ | refine ld hO 2 rfl rfl ?_ | refine ld hO 3 rfl rfl ?_ | refine ld hO 4 rfl rfl ?_ | refine ld hO 5 rfl rfl ?_)
        rw [decide_eq_false (show ¬ SImg s by unfold SImg; omega)] at hk
        exact hk _ hO.left
    · repeat (first | refine opP_i (by first | exact qa | exact qs | exact nilCheck_ptr | exact offPtr_ptr | exact bin_eql | exact bin_neq | exact bin_lss | exact bin_gtr | exact bin_leq | exact bin_geq | exact un_not | exact pick_true | exact pick_false | exact qy | exact qn | exact qi | exact qj) ?_ | refine opW_i (by first | exact lenSl_sl | exact min_w | exact max_w) ?_ | refine wy ?_ | refine wn ?_ | refine wIf_t rfl ?_ | refine wIf_f rfl ?_ | refine cond_yes rfl ?_ | refine cond_no rfl ?_ | refine ld hO 0 rfl rfl ?_ | refine ld hO 1 rfl rfl ?_ | refine ld hO 2 rfl rfl ?_ | refine ld hO 3 rfl rfl ?_ | refine ld hO 4 rfl rfl ?_ | refine ld hO 5 rfl rfl ?_)
      rw [decide_eq_false (show ¬ SImg s by unfold SImg; omega)] at hk
      exact hk _ hO.left
  · repeat (first | refine opP_i (by first | exact qa | exact qs | exact nilCheck_ptr | exact offPtr_ptr | exact bin_eql | exact bin_neq | exact bin_lss | exact bin_gtr | exact bin_leq | exact bin_geq | exact un_not | exact pick_true | exact pick_false | exact qy | exact qn | exact qi | exact qj) ?_ | refine opW_i (by first | exact lenSl_sl | exact min_w | exact max_w) ?_ | refine wy ?_ | refine wn ?_ | refine wIf_t rfl ?_ | refine wIf_f rfl ?_ | refine cond_yes rfl ?_ | refine cond_no rfl ?_ | refine ld hO 0 rfl rfl ?_ | refine ld hO 1 rfl rfl ?_ | refine ld hO 2 rfl rfl ?_ | refine ld hO 3 rfl rfl ?_ | refine ld hO 4 rfl rfl ?_ | refine ld hO 5 rfl rfl ?_)
    rw [decide_eq_false (show ¬ SImg s by unfold SImg; omega)] at hk
    exact hk _ hO.left
end
variable {H : Heap} {Γ : List (Nat × Blk)} {K : Value → Heap → Prop}
section
variable {s : Sl}
/-! whole blocks -/
theorem loadAll_at {p n : Nat} {cs : List Value} {w : Bool} {K : Value → Heap → Prop} (h : St H Γ) (i : Nat) (hi : Γ[i]? = some (p, ⟨cs, w⟩)) (hn : cs.length = n) (hp : 0 < n) (hk : K (agg cs) H) : opW (loadAgg n (ptr p 0) H) K := by
  refine loadAgg_at h i hi (show _ = cs from ?_) hn hp hk
  rw [List.drop_zero]
  exact List.take_of_length_le (Nat.le_of_eq hn)
theorem storeAll_at {p n : Nat} {cs new : List Value} {K : Value → Heap → Prop} (h : St H Γ) (i : Nat) (hi : Γ[i]? = some (p, ⟨cs, true⟩)) (hn : cs.length = n) (hl : new.length = n) (h1 : new.all oneCell = true)
    (hk : ∀ H', St H' (Γ.set i (p, ⟨new, true⟩)) → K undef H') : opW (storeTo n (ptr p 0) (agg new) H) K := by
  refine store_at h i hi hl (by omega) h1 fun H' hO => hk H' ?_
  have e : cs.take 0 ++ (cellsL (agg new) ++ cs.drop (0 + n)) = new := by
    rw [List.drop_of_length_le (by omega)]
    show [] ++ (new ++ []) = new
    simp
  rw [e] at hO; exact hO
theorem ref10_Right_spec (hO : St H Γ) (hk : ∀ H', St H' Γ → K (.bool (decide (SRight s))) H') : wCall P n_ref10_Right [agg (slC s)] H K := by
  apply ref10_Right_ok; unfold ref10_Right
  refine new_at hO ?_
  intro p H hO
  refine join_with (fun l' H' => l' = [ptr p 0, .bool (decide (SNone s))] ∧ H' = H) ?_ ?_
  · repeat (first | refine opP_i (by first | exact qa | exact qs | exact nilCheck_ptr | exact offPtr_ptr | exact bin_eql | exact bin_neq | exact bin_lss | exact bin_gtr | exact bin_leq | exact bin_geq | exact un_not | exact pick_true | exact pick_false | exact qy | exact qn | exact qi | exact qj) ?_ | refine opW_i (by first | exact lenSl_sl | exact min_w | exact max_w) ?_ | refine wy ?_ | refine wn ?_ | refine wIf_t rfl ?_ | refine wIf_f rfl ?_ | refine cond_yes rfl ?_ | refine cond_no rfl ?_ | refine ld hO 0 rfl rfl ?_ | refine ld hO 1 rfl rfl ?_ | refine ld hO 2 rfl rfl ?_ | refine ld hO 3 rfl rfl ?_ | refine ld hO 4 rfl rfl ?_ | refine ld hO 5 rfl rfl ?_)
    by_cases h1 : s.tr = 0
    · repeat (first | refine opP_i (by first | exact qa | exact qs | exact nilCheck_ptr | exact offPtr_ptr | exact bin_eql | exact bin_neq | exact bin_lss | exact bin_gtr | exact bin_leq | exact bin_geq | exact un_not | exact pick_true | exact pick_false | exact qy | exact qn | exact qi | exact qj) ?_ | refine opW_i (by first | exact lenSl_sl | exact min_w | exact max_w) ?_ | refine wy ?_ | refine wn ?_ | refine wIf_t rfl ?_ | refine wIf_f rfl ?_ | refine cond_yes rfl ?_ | refine cond_no rfl ?_ | refine ld hO 0 rfl rfl ?_ | refine ld hO 1 rfl rfl ?_ | refine ld hO 2 rfl rfl ?_ | refine ld hO 3 rfl rfl ?_ | refine ld hO 4 rfl rfl ?_ | refine ld hO 5 rfl rfl ?_)
      by_cases h2 : s.ver = 0
      · repeat (first | refine opP_i (by first | exact qa | exact qs | exact nilCheck_ptr | exact offPtr_ptr | exact bin_eql | exact bin_neq | exact bin_lss | exact bin_gtr | exact bin_leq | exact bin_geq | exact un_not | exact pick_true | exact pick_false | exact qy | exact qn | exact qi | exact qj) ?_ | refine opW_i (by first | exact lenSl_sl | exact min_w | exact max_w) ?_ | refine wy ?_ | refine wn ?_ | refine wIf_t rfl ?_ | refine wIf_f rfl ?_ | refine cond_yes rfl ?_ | refine cond_no rfl ?_ | refine ld hO 0 rfl rfl ?_ | refine ld hO 1 rfl rfl ?_ | refine ld hO 2 rfl rfl ?_ | refine ld hO 3 rfl rfl ?_ | refine ld hO 4 rfl rfl ?_ | refine ld hO 5 rfl rfl ?_)
        by_cases h3 : s.sz = 0
        · repeat (first | refine opP_i (by first | exact qa | exact qs | exact nilCheck_ptr | exact offPtr_ptr | exact bin_eql | exact bin_neq | exact bin_lss | exact bin_gtr | exact bin_leq | exact bin_geq | exact un_not | exact pick_true | exact pick_false | exact qy | exact qn | exact qi | exact qj) ?_ | refine opW_i (by first | exact lenSl_sl | exact min_w | exact max_w) ?_ | refine wy ?_ | refine wn ?_ | refine wIf_t rfl ?_ | refine wIf_f rfl ?_ | refine cond_yes rfl ?_ | refine cond_no rfl ?_ | refine ld hO 0 rfl rfl ?_ | refine ld hO 1 rfl rfl ?_ | refine ld hO 2 rfl rfl ?_ | refine ld hO 3 rfl rfl ?_ | refine ld hO 4 rfl rfl ?_ | refine ld hO 5 rfl rfl ?_)
          refine loadAgg_at hO (Γ.length + 0) (at_r rfl) (show _ = dgC s.dg from rfl) rfl (by omega) ?_
          refine opP_i b24 ?_
          refine opP_i (eq24 _ _ _) ?_
          repeat (first | refine opP_i (by first | exact qa | exact qs | exact nilCheck_ptr | exact offPtr_ptr | exact bin_eql | exact bin_neq | exact bin_lss | exact bin_gtr | exact bin_leq | exact bin_geq | exact un_not | exact pick_true | exact pick_false | exact qy | exact qn | exact qi | exact qj) ?_ | refine opW_i (by first | exact lenSl_sl | exact min_w | exact max_w) ?_ | refine wy ?_ | refine wn ?_ | refine wIf_t rfl ?_ | refine wIf_f rfl ?_ | refine cond_yes rfl ?_ | refine cond_no rfl ?_ | refine ld hO 0 rfl rfl ?_ | refine ld hO 1 rfl rfl ?_ | refine ld hO 2 rfl rfl ?_ | refine ld hO 3 rfl rfl ?_ | refine ld hO 4 rfl rfl ?_ | refine ld hO 5 rfl rfl ?_)
          refine ⟨?_, rfl⟩
          rw [show decide (SNone s) = eqCells (dgC s.dg) (dgC fun _ => 0) from by rw [Bool.eq_iff_iff, decide_eq_true_iff]; exact ⟨fun h => h.2.2.2, fun h => ⟨h1, h2, h3, h⟩⟩]
        · repeat (first | refine opP_i (by first | exact qa | exact qs | exact nilCheck_ptr | exact offPtr_ptr | exact bin_eql | exact bin_neq | exact bin_lss | exact bin_gtr | exact bin_leq | exact bin_geq | exact un_not | exact pick_true | exact pick_false | exact qy | exact qn | exact qi | exact qj) ?_ | refine opW_i (by first | exact lenSl_sl | exact min_w | exact max_w) ?_ | refine wy ?_ | refine wn ?_ | refine wIf_t rfl ?_ | refine wIf_f rfl ?_ | refine cond_yes rfl ?_ | refine cond_no rfl ?_ | refine ld hO 0 rfl rfl ?_ | refine ld hO 1 rfl rfl ?_ | refine ld hO 2 rfl rfl ?_ | refine ld hO 3 rfl rfl ?_ | refine ld hO 4 rfl rfl ?_ | refine ld hO 5 rfl rfl ?_)
          rw [decide_eq_false (show ¬ SNone s from fun h => h3 h.2.2.1)]; exact ⟨rfl, rfl⟩
      · repeat (first | refine opP_i (by first | exact qa | exact qs | exact nilCheck_ptr | exact offPtr_ptr | exact bin_eql | exact bin_neq | exact bin_lss | exact bin_gtr | exact bin_leq | exact bin_geq | exact un_not | exact pick_true | exact pick_false | exact qy | exact qn | exact qi | exact qj) ?_ | refine opW_i (by first | exact lenSl_sl | exact min_w | exact max_w) ?_ | refine wy ?_ | refine wn ?_ | refine wIf_t rfl ?_ | refine wIf_f rfl ?_ | refine cond_yes rfl ?_ | refine cond_no rfl ?_ | refine ld hO 0 rfl rfl ?_ | refine ld hO 1 rfl rfl ?_ | refine ld hO 2 rfl rfl ?_ | refine ld hO 3 rfl rfl ?_ | refine ld hO 4 rfl rfl ?_ | refine ld hO 5 rfl rfl ?_)
        rw [decide_eq_false (show ¬ SNone s from fun h => h2 h.2.1)]; exact ⟨rfl, rfl⟩
    · repeat (first | refine opP_i (by first | exact qa | exact qs | exact nilCheck_ptr | exact offPtr_ptr | exact bin_eql | exact bin_neq | exact bin_lss | exact bin_gtr | exact bin_leq | exact bin_geq | exact un_not | exact pick_true | exact pick_false | exact qy | exact qn | exact qi | exact qj) ?_ | refine opW_i (by first | exact lenSl_sl | exact min_w | exact max_w) ?_ | refine wy ?_ | refine wn ?_ | refine wIf_t rfl ?_ | refine wIf_f rfl ?_ | refine cond_yes rfl ?_ | refine cond_no rfl ?_ | refine ld hO 0 rfl rfl ?_ | refine ld hO 1 rfl rfl ?_ | refine ld hO 2 rfl rfl ?_ | refine ld hO 3 rfl rfl ?_ | refine ld hO 4 rfl rfl ?_ | refine ld hO 5 rfl rfl ?_)
      rw [decide_eq_false (show ¬ SNone s from fun h => h1 h.1)]; exact ⟨rfl, rfl⟩
  rintro l' H' ⟨rfl, rfl⟩
  refine join_with (fun l' H => l' = [ptr p 0, .bool (decide (SNone s)), .bool (decide (SImg s))] ∧ H = H') ?_ ?_
  · try simp only [nth_zero, nth_succ]
    repeat (first | refine opP_i (by first | exact qa | exact qs | exact nilCheck_ptr | exact offPtr_ptr | exact bin_eql | exact bin_neq | exact bin_lss | exact bin_gtr | exact bin_leq | exact bin_geq | exact un_not | exact pick_true | exact pick_false | exact qy | exact qn | exact qi | exact qj) ?_ | refine opW_i (by first | exact lenSl_sl | exact min_w | exact max_w) ?_ | refine wy ?_ | refine wn ?_ | refine wIf_t rfl ?_ | refine wIf_f rfl ?_ | refine cond_yes rfl ?_ | refine cond_no rfl ?_ | refine ld hO 0 rfl rfl ?_ | refine ld hO 1 rfl rfl ?_ | refine ld hO 2 rfl rfl ?_ | refine ld hO 3 rfl rfl ?_ | refine ld hO 4 rfl rfl ?_ | refine ld hO 5 rfl rfl ?_)
    by_cases h1 : 1 ≤ s.ver
    · repeat (first | refine opP_i (by first | exact qa | exact qs | exact nilCheck_ptr | exact offPtr_ptr | exact bin_eql | exact bin_neq | exact bin_lss | exact bin_gtr | exact bin_leq | exact bin_geq | exact un_not | exact pick_true | exact pick_false | exact qy | exact qn | exact qi | exact qj) ?_ | refine opW_i (by first | exact lenSl_sl | exact min_w | exact max_w) ?_ | refine wy ?_ | refine wn ?_ | refine wIf_t rfl ?_ | refine wIf_f rfl ?_ | refine cond_yes rfl ?_ | refine cond_no rfl ?_ | refine ld hO 0 rfl rfl ?_ | refine ld hO 1 rfl rfl ?_ | refine ld hO 2 rfl rfl ?_ | refine ld hO 3 rfl rfl ?_ | refine ld hO 4 rfl rfl ?_ | refine ld hO 5 rfl rfl ?_)
      by_cases h2 : s.ver ≤ 281474976710656
      · repeat (first | refine opP_i (by first | exact qa | exact qs | exact nilCheck_ptr | exact offPtr_ptr | exact bin_eql | exact bin_neq | exact bin_lss | exact bin_gtr | exact bin_leq | exact bin_geq | exact un_not | exact pick_true | exact pick_false | exact qy | exact qn | exact qi | exact qj) ?_ | refine opW_i (by first | exact lenSl_sl | exact min_w | exact max_w) ?_ | refine wy ?_ | refine wn ?_ | refine wIf_t rfl ?_ | refine wIf_f rfl ?_ | refine cond_yes rfl ?_ | refine cond_no rfl ?_ | refine ld hO 0 rfl rfl ?_ | refine ld hO 1 rfl rfl ?_ | refine ld hO 2 rfl rfl ?_ | refine ld hO 3 rfl rfl ?_ | refine ld hO 4 rfl rfl ?_ | refine ld hO 5 rfl rfl ?_)
        by_cases h3 : 1 ≤ s.sz
        · repeat (first | refine opP_i (by first | exact qa | exact qs | exact nilCheck_ptr | exact offPtr_ptr | exact bin_eql | exact bin_neq | exact bin_lss | exact bin_gtr | exact bin_leq | exact bin_geq | exact un_not | exact pick_true | exact pick_false | exact qy | exact qn | exact qi | exact qj) ?_ | refine opW_i (by first | exact lenSl_sl | exact min_w | exact max_w) ?_ | refine wy ?_ | refine wn ?_ | refine wIf_t rfl ?_ | refine wIf_f rfl ?_ | refine cond_yes rfl ?_ | refine cond_no rfl ?_ | refine ld hO 0 rfl rfl ?_ | refine ld hO 1 rfl rfl ?_ | refine ld hO 2 rfl rfl ?_ | refine ld hO 3 rfl rfl ?_ | refine ld hO 4 rfl rfl ?_ | refine ld hO 5 rfl rfl ?_)
          rw [show decide (SImg s) = decide (s.sz ≤ 65536) from decide_eq_decide.2 (by unfold SImg; omega)]
          exact ⟨(by first | rfl | trivial), (by first | rfl | trivial)⟩
        · repeat (first | refine opP_i (by first | exact qa | exact qs | exact nilCheck_ptr | exact offPtr_ptr | exact bin_eql | exact bin_neq | exact bin_lss | exact bin_gtr | exact bin_leq | exact bin_geq | exact un_not | exact pick_true | exact pick_false | exact qy | exact qn | exact qi | exact qj) ?_ | refine opW_i (by first | exact lenSl_sl | exact min_w | exact max_w) ?_ | refine wy ?_ | refine wn ?_ | refine wIf_t rfl ?_ | refine wIf_f rfl ?_ | refine cond_yes rfl ?_ | refine cond_no rfl ?_ | refine ld hO 0 rfl rfl ?_ | refine ld hO 1 rfl rfl ?_ | refine ld hO 2 rfl rfl ?_ | refine ld hO 3 rfl rfl ?_ | refine ld hO 4 rfl rfl ?_ | refine ld hO 5 rfl rfl ?_)
          rw [decide_eq_false (show ¬ SImg s by unfold SImg; omega)]; exact ⟨(by first | rfl | trivial), (by first | rfl | trivial)⟩
      · repeat (first | refine opP_i (by first | exact qa | exact qs | exact nilCheck_ptr | exact offPtr_ptr | exact bin_eql | exact bin_neq | exact bin_lss | exact bin_gtr | exact bin_leq | exact bin_geq | exact un_not | exact pick_true | exact pick_false | exact qy | exact qn | exact qi | exact qj) ?_ | refine opW_i (by first | exact lenSl_sl | exact min_w | exact max_w) ?_ | refine wy ?_ | refine wn ?_ | refine wIf_t rfl ?_ | refine wIf_f rfl ?_ | refine cond_yes rfl ?_ | refine cond_no rfl ?_ | refine ld hO 0 rfl rfl ?_ | refine ld hO 1 rfl rfl ?_ | refine ld hO 2 rfl rfl ?_ | refine ld hO 3 rfl rfl ?_ | refine ld hO 4 rfl rfl ?_ | refine ld hO 5 rfl rfl ?_)
        rw [decide_eq_false (show ¬ SImg s by unfold SImg; omega)]; exact ⟨(by first | rfl | trivial), (by first | rfl | trivial)⟩
    · repeat (first | refine opP_i (by first | exact qa | exact qs | exact nilCheck_ptr | exact offPtr_ptr | exact bin_eql | exact bin_neq | exact bin_lss | exact bin_gtr | exact bin_leq | exact bin_geq | exact un_not | exact pick_true | exact pick_false | exact qy | exact qn | exact qi | exact qj) ?_ | refine opW_i (by first | exact lenSl_sl | exact min_w | exact max_w) ?_ | refine wy ?_ | refine wn ?_ | refine wIf_t rfl ?_ | refine wIf_f rfl ?_ | refine cond_yes rfl ?_ | refine cond_no rfl ?_ | refine ld hO 0 rfl rfl ?_ | refine ld hO 1 rfl rfl ?_ | refine ld hO 2 rfl rfl ?_ | refine ld hO 3 rfl rfl ?_ | refine ld hO 4 rfl rfl ?_ | refine ld hO 5 rfl rfl ?_)
      rw [decide_eq_false (show ¬ SImg s by unfold SImg; omega)]; exact ⟨(by first | rfl | trivial), (by first | rfl | trivial)⟩
  rintro l' H ⟨rfl, rfl⟩
  refine join_with (fun l' H' => l' = [ptr p 0, .bool (decide (SNone s)), .bool (decide (SImg s)), .bool (decide (s.st = 0 ∨ s.st = 1 ∨ s.st = 4))] ∧ H' = H) ?_ ?_
  · try simp only [nth_zero, nth_succ]
    repeat (first | refine opP_i (by first | exact qa | exact qs | exact nilCheck_ptr | exact offPtr_ptr | exact bin_eql | exact bin_neq | exact bin_lss | exact bin_gtr | exact bin_leq | exact bin_geq | exact un_not | exact pick_true | exact pick_false | exact qy | exact qn | exact qi | exact qj) ?_ | refine opW_i (by first | exact lenSl_sl | exact min_w | exact max_w) ?_ | refine wy ?_ | refine wn ?_ | refine wIf_t rfl ?_ | refine wIf_f rfl ?_ | refine cond_yes rfl ?_ | refine cond_no rfl ?_ | refine ld hO 0 rfl rfl ?_ | refine ld hO 1 rfl rfl ?_ | refine ld hO 2 rfl rfl ?_ | refine ld hO 3 rfl rfl ?_ | refine ld hO 4 rfl rfl ?_ | refine ld hO 5 rfl rfl ?_)
    by_cases h : s.st = 0
    · repeat (first | refine opP_i (by first | exact qa | exact qs | exact nilCheck_ptr | exact offPtr_ptr | exact bin_eql | exact bin_neq | exact bin_lss | exact bin_gtr | exact bin_leq | exact bin_geq | exact un_not | exact pick_true | exact pick_false | exact qy | exact qn | exact qi | exact qj) ?_ | refine opW_i (by first | exact lenSl_sl | exact min_w | exact max_w) ?_ | refine wy ?_ | refine wn ?_ | refine wIf_t rfl ?_ | refine wIf_f rfl ?_ | refine cond_yes rfl ?_ | refine cond_no rfl ?_ | refine ld hO 0 rfl rfl ?_ | refine ld hO 1 rfl rfl ?_ | refine ld hO 2 rfl rfl ?_ | refine ld hO 3 rfl rfl ?_ | refine ld hO 4 rfl rfl ?_ | refine ld hO 5 rfl rfl ?_)
      rw [decide_eq_true (show s.st = 0 ∨ s.st = 1 ∨ s.st = 4 by omega)]; exact ⟨(by first | rfl | trivial), (by first | rfl | trivial)⟩
    · repeat (first | refine opP_i (by first | exact qa | exact qs | exact nilCheck_ptr | exact offPtr_ptr | exact bin_eql | exact bin_neq | exact bin_lss | exact bin_gtr | exact bin_leq | exact bin_geq | exact un_not | exact pick_true | exact pick_false | exact qy | exact qn | exact qi | exact qj) ?_ | refine opW_i (by first | exact lenSl_sl | exact min_w | exact max_w) ?_ | refine wy ?_ | refine wn ?_ | refine wIf_t rfl ?_ | refine wIf_f rfl ?_ | refine cond_yes rfl ?_ | refine cond_no rfl ?_ | refine ld hO 0 rfl rfl ?_ | refine ld hO 1 rfl rfl ?_ | refine ld hO 2 rfl rfl ?_ | refine ld hO 3 rfl rfl ?_ | refine ld hO 4 rfl rfl ?_ | refine ld hO 5 rfl rfl ?_)
      by_cases h1 : s.st = 1
      · repeat (first | refine opP_i (by first | exact qa | exact qs | exact nilCheck_ptr | exact offPtr_ptr | exact bin_eql | exact bin_neq | exact bin_lss | exact bin_gtr | exact bin_leq | exact bin_geq | exact un_not | exact pick_true | exact pick_false | exact qy | exact qn | exact qi | exact qj) ?_ | refine opW_i (by first | exact lenSl_sl | exact min_w | exact max_w) ?_ | refine wy ?_ | refine wn ?_ | refine wIf_t rfl ?_ | refine wIf_f rfl ?_ | refine cond_yes rfl ?_ | refine cond_no rfl ?_ | refine ld hO 0 rfl rfl ?_ | refine ld hO 1 rfl rfl ?_ | refine ld hO 2 rfl rfl ?_ | refine ld hO 3 rfl rfl ?_ | refine ld hO 4 rfl rfl ?_ | refine ld hO 5 rfl rfl ?_)
        rw [decide_eq_true (show s.st = 0 ∨ s.st = 1 ∨ s.st = 4 by omega)]; exact ⟨(by first | rfl | trivial), (by first | rfl | trivial)⟩
      · repeat (first | refine opP_i (by first | exact qa | exact qs | exact nilCheck_ptr | exact offPtr_ptr | exact bin_eql | exact bin_neq | exact bin_lss | exact bin_gtr | exact bin_leq | exact bin_geq | exact un_not | exact pick_true | exact pick_false | exact qy | exact qn | exact qi | exact qj) ?_ | refine opW_i (by first | exact lenSl_sl | exact min_w | exact max_w) ?_ | refine wy ?_ | refine wn ?_ | refine wIf_t rfl ?_ | refine wIf_f rfl ?_ | refine cond_yes rfl ?_ | refine cond_no rfl ?_ | refine ld hO 0 rfl rfl ?_ | refine ld hO 1 rfl rfl ?_ | refine ld hO 2 rfl rfl ?_ | refine ld hO 3 rfl rfl ?_ | refine ld hO 4 rfl rfl ?_ | refine ld hO 5 rfl rfl ?_)
        rw [show decide (s.st = 0 ∨ s.st = 1 ∨ s.st = 4) = decide (s.st = 4) from decide_eq_decide.2 (by omega)]; exact ⟨(by first | rfl | trivial), (by first | rfl | trivial)⟩
  rintro l' H' ⟨rfl, rfl⟩
  try simp only [nth_zero, nth_succ]
  refine wIf_dec (fun h => ?_) (fun h => ?_)
  · rw [show decide (SRight s) = decide (SNone s) from decide_eq_decide.2 (by unfold SRight; constructor; (rintro (⟨_, h⟩ | ⟨h, _⟩ | ⟨h, _⟩); exact h; omega; omega); exact fun h2 => .inl ⟨h, h2⟩)] at hk
    exact hk _ hO.left
  · have hn : SRight s ↔ (s.st = 2 ∧ (0 ≤ s.tr ∧ s.tr ≤ 7) ∧ SImg s) ∨ (s.st = 3 ∧ s.tr = 0 ∧ SImg s) := by
      unfold SRight; constructor
      · rintro (⟨h2, _⟩ | h2)
        · exact absurd h2 h
        · exact h2
      · exact .inr
    repeat (first | refine opP_i (by first | exact qa | exact qs | exact nilCheck_ptr | exact offPtr_ptr | exact bin_eql | exact bin_neq | exact bin_lss | exact bin_gtr | exact bin_leq | exact bin_geq | exact un_not | exact pick_true | exact pick_false | exact qy | exact qn | exact qi | exact qj) ?_ | refine opW_i (by first | exact lenSl_sl | exact min_w | exact max_w) ?_ | refine wy ?_ | refine wn ?_ | refine wIf_t rfl ?_ | refine wIf_f rfl ?_ | refine cond_yes rfl ?_ | refine cond_no rfl ?_ | refine ld hO 0 rfl rfl ?_ | refine ld hO 1 rfl rfl ?_ | refine ld hO 2 rfl rfl ?_ | refine ld hO 3 rfl rfl ?_ | refine ld hO 4 rfl rfl ?_ | refine ld hO 5 rfl rfl ?_)
    by_cases h2 : s.st = 2
    · repeat (first | refine opP_i (by first | exact qa | exact qs | exact nilCheck_ptr | exact offPtr_ptr | exact bin_eql | exact bin_neq | exact bin_lss | exact bin_gtr | exact bin_leq | exact bin_geq | exact un_not | exact pick_true | exact pick_false | exact qy | exact qn | exact qi | exact qj) ?_ | refine opW_i (by first | exact lenSl_sl | exact min_w | exact max_w) ?_ | refine wy ?_ | refine wn ?_ | refine wIf_t rfl ?_ | refine wIf_f rfl ?_ | refine cond_yes rfl ?_ | refine cond_no rfl ?_ | refine ld hO 0 rfl rfl ?_ | refine ld hO 1 rfl rfl ?_ | refine ld hO 2 rfl rfl ?_ | refine ld hO 3 rfl rfl ?_ | refine ld hO 4 rfl rfl ?_ | refine ld hO 5 rfl rfl ?_)
      have hn2 : SRight s ↔ ((0 ≤ s.tr ∧ s.tr ≤ 7) ∧ SImg s) := by
        rw [hn]; constructor
        · rintro (⟨_, h⟩ | ⟨h, _⟩)
          · exact h
          · omega
        · exact fun h => .inl ⟨h2, h⟩
      refine wIf_dec (fun h3 => ?_) (fun h3 => ?_)
      · repeat (first | refine opP_i (by first | exact qa | exact qs | exact nilCheck_ptr | exact offPtr_ptr | exact bin_eql | exact bin_neq | exact bin_lss | exact bin_gtr | exact bin_leq | exact bin_geq | exact un_not | exact pick_true | exact pick_false | exact qy | exact qn | exact qi | exact qj) ?_ | refine opW_i (by first | exact lenSl_sl | exact min_w | exact max_w) ?_ | refine wy ?_ | refine wn ?_ | refine wIf_t rfl ?_ | refine wIf_f rfl ?_ | refine cond_yes rfl ?_ | refine cond_no rfl ?_ | refine ld hO 0 rfl rfl ?_ | refine ld hO 1 rfl rfl ?_ | refine ld hO 2 rfl rfl ?_ | refine ld hO 3 rfl rfl ?_ | refine ld hO 4 rfl rfl ?_ | refine ld hO 5 rfl rfl ?_)
        by_cases h4 : 0 ≤ s.tr
        · repeat (first | refine opP_i (by first | exact qa | exact qs | exact nilCheck_ptr | exact offPtr_ptr | exact bin_eql | exact bin_neq | exact bin_lss | exact bin_gtr | exact bin_leq | exact bin_geq | exact un_not | exact pick_true | exact pick_false | exact qy | exact qn | exact qi | exact qj) ?_ | refine opW_i (by first | exact lenSl_sl | exact min_w | exact max_w) ?_ | refine wy ?_ | refine wn ?_ | refine wIf_t rfl ?_ | refine wIf_f rfl ?_ | refine cond_yes rfl ?_ | refine cond_no rfl ?_ | refine ld hO 0 rfl rfl ?_ | refine ld hO 1 rfl rfl ?_ | refine ld hO 2 rfl rfl ?_ | refine ld hO 3 rfl rfl ?_ | refine ld hO 4 rfl rfl ?_ | refine ld hO 5 rfl rfl ?_)
          rw [show decide (SRight s) = decide (s.tr ≤ 7) from decide_eq_decide.2 (by rw [hn2]; exact ⟨fun h => h.1.2, fun h => ⟨⟨h4, h⟩, h3⟩⟩)] at hk
          exact hk _ hO.left
        · repeat (first | refine opP_i (by first | exact qa | exact qs | exact nilCheck_ptr | exact offPtr_ptr | exact bin_eql | exact bin_neq | exact bin_lss | exact bin_gtr | exact bin_leq | exact bin_geq | exact un_not | exact pick_true | exact pick_false | exact qy | exact qn | exact qi | exact qj) ?_ | refine opW_i (by first | exact lenSl_sl | exact min_w | exact max_w) ?_ | refine wy ?_ | refine wn ?_ | refine wIf_t rfl ?_ | refine wIf_f rfl ?_ | refine cond_yes rfl ?_ | refine cond_no rfl ?_ | refine ld hO 0 rfl rfl ?_ | refine ld hO 1 rfl rfl ?_ | refine ld hO 2 rfl rfl ?_ | refine ld hO 3 rfl rfl ?_ | refine ld hO 4 rfl rfl ?_ | refine ld hO 5 rfl rfl ?_)
          rw [decide_eq_false (show ¬ SRight s by rw [hn2]; exact fun h => h4 h.1.1)] at hk
          exact hk _ hO.left
      · repeat (first | refine opP_i (by first | exact qa | exact qs | exact nilCheck_ptr | exact offPtr_ptr | exact bin_eql | exact bin_neq | exact bin_lss | exact bin_gtr | exact bin_leq | exact bin_geq | exact un_not | exact pick_true | exact pick_false | exact qy | exact qn | exact qi | exact qj) ?_ | refine opW_i (by first | exact lenSl_sl | exact min_w | exact max_w) ?_ | refine wy ?_ | refine wn ?_ | refine wIf_t rfl ?_ | refine wIf_f rfl ?_ | refine cond_yes rfl ?_ | refine cond_no rfl ?_ | refine ld hO 0 rfl rfl ?_ | refine ld hO 1 rfl rfl ?_ | refine ld hO 2 rfl rfl ?_ | refine ld hO 3 rfl rfl ?_ | refine ld hO 4 rfl rfl ?_ | refine ld hO 5 rfl rfl ?_)
        rw [decide_eq_false (show ¬ SRight s by rw [hn2]; exact fun h => h3 h.2)] at hk
        exact hk _ hO.left
    · repeat (first | refine opP_i (by first | exact qa | exact qs | exact nilCheck_ptr | exact offPtr_ptr | exact bin_eql | exact bin_neq | exact bin_lss | exact bin_gtr | exact bin_leq | exact bin_geq | exact un_not | exact pick_true | exact pick_false | exact qy | exact qn | exact qi | exact qj) ?_ | refine opW_i (by first | exact lenSl_sl | exact min_w | exact max_w) ?_ | refine wy ?_ | refine wn ?_ | refine wIf_t rfl ?_ | refine wIf_f rfl ?_ | refine cond_yes rfl ?_ | refine cond_no rfl ?_ | refine ld hO 0 rfl rfl ?_ | refine ld hO 1 rfl rfl ?_ | refine ld hO 2 rfl rfl ?_ | refine ld hO 3 rfl rfl ?_ | refine ld hO 4 rfl rfl ?_ | refine ld hO 5 rfl rfl ?_)
      by_cases h3 : s.st = 3
      · repeat (first | refine opP_i (by first | exact qa | exact qs | exact nilCheck_ptr | exact offPtr_ptr | exact bin_eql | exact bin_neq | exact bin_lss | exact bin_gtr | exact bin_leq | exact bin_geq | exact un_not | exact pick_true | exact pick_false | exact qy | exact qn | exact qi | exact qj) ?_ | refine opW_i (by first | exact lenSl_sl | exact min_w | exact max_w) ?_ | refine wy ?_ | refine wn ?_ | refine wIf_t rfl ?_ | refine wIf_f rfl ?_ | refine cond_yes rfl ?_ | refine cond_no rfl ?_ | refine ld hO 0 rfl rfl ?_ | refine ld hO 1 rfl rfl ?_ | refine ld hO 2 rfl rfl ?_ | refine ld hO 3 rfl rfl ?_ | refine ld hO 4 rfl rfl ?_ | refine ld hO 5 rfl rfl ?_)
        have hn2 : SRight s ↔ (s.tr = 0 ∧ SImg s) := by
          rw [hn]; constructor
          · rintro (⟨h, _⟩ | ⟨_, h⟩)
            · omega
            · exact h
          · exact fun h => .inr ⟨h3, h⟩
        refine wIf_dec (fun h4 => ?_) (fun h4 => ?_)
        · repeat (first | refine opP_i (by first | exact qa | exact qs | exact nilCheck_ptr | exact offPtr_ptr | exact bin_eql | exact bin_neq | exact bin_lss | exact bin_gtr | exact bin_leq | exact bin_geq | exact un_not | exact pick_true | exact pick_false | exact qy | exact qn | exact qi | exact qj) ?_ | refine opW_i (by first | exact lenSl_sl | exact min_w | exact max_w) ?_ | refine wy ?_ | refine wn ?_ | refine wIf_t rfl ?_ | refine wIf_f rfl ?_ | refine cond_yes rfl ?_ | refine cond_no rfl ?_ | refine ld hO 0 rfl rfl ?_ | refine ld hO 1 rfl rfl ?_ | refine ld hO 2 rfl rfl ?_ | refine ld hO 3 rfl rfl ?_ | refine ld hO 4 rfl rfl ?_ | refine ld hO 5 rfl rfl ?_)
          rw [show decide (SRight s) = decide (s.tr = 0) from decide_eq_decide.2 (by rw [hn2]; exact ⟨fun h => h.1, fun h => ⟨h, h4⟩⟩)] at hk
          exact hk _ hO.left
        · repeat (first | refine opP_i (by first | exact qa | exact qs | exact nilCheck_ptr | exact offPtr_ptr | exact bin_eql | exact bin_neq | exact bin_lss | exact bin_gtr | exact bin_leq | exact bin_geq | exact un_not | exact pick_true | exact pick_false | exact qy | exact qn | exact qi | exact qj) ?_ | refine opW_i (by first | exact lenSl_sl | exact min_w | exact max_w) ?_ | refine wy ?_ | refine wn ?_ | refine wIf_t rfl ?_ | refine wIf_f rfl ?_ | refine cond_yes rfl ?_ | refine cond_no rfl ?_ | refine ld hO 0 rfl rfl ?_ | refine ld hO 1 rfl rfl ?_ | refine ld hO 2 rfl rfl ?_ | refine ld hO 3 rfl rfl ?_ | refine ld hO 4 rfl rfl ?_ | refine ld hO 5 rfl rfl ?_)
          rw [decide_eq_false (show ¬ SRight s by rw [hn2]; exact fun h => h4 h.2)] at hk
          exact hk _ hO.left
      · repeat (first | refine opP_i (by first | exact qa | exact qs | exact nilCheck_ptr | exact offPtr_ptr | exact bin_eql | exact bin_neq | exact bin_lss | exact bin_gtr | exact bin_leq | exact bin_geq | exact un_not | exact pick_true | exact pick_false | exact qy | exact qn | exact qi | exact qj) ?_ | refine opW_i (by first | exact lenSl_sl | exact min_w | exact max_w) ?_ | refine wy ?_ | refine wn ?_ | refine wIf_t rfl ?_ | refine wIf_f rfl ?_ | refine cond_yes rfl ?_ | refine cond_no rfl ?_ | refine ld hO 0 rfl rfl ?_ | refine ld hO 1 rfl rfl ?_ | refine ld hO 2 rfl rfl ?_ | refine ld hO 3 rfl rfl ?_ | refine ld hO 4 rfl rfl ?_ | refine ld hO 5 rfl rfl ?_)
        rw [decide_eq_false (show ¬ SRight s by rw [hn]; rintro (⟨h, _⟩ | ⟨h, _⟩); exact h2 h; exact h3 h)] at hk
        exact hk _ hO.left
end
variable {H : Heap} {Γ : List (Nat × Blk)} {K : Value → Heap → Prop}
section
variable {t : Tb}
def Tb.sl (t : Tb) (i : Int) : Sl := if i = 0 then t.a else t.b
def Ix (x : Int) : Prop := x = 0 ∨ x = 1
instance (x : Int) : Decidable (Ix x) := by unfold Ix; infer_instance
def TRight (t : Tb) : Prop := SRight t.a ∧ SRight t.b ∧ Ix t.act ∧ (t.boo = -1 ∨ Ix t.boo) ∧ t.flo ≤ 281474976710656
instance (t : Tb) : Decidable (TRight t) := by unfold TRight; infer_instance
theorem load_slot {p o : Nat} {w : Bool} {x : Int} {K : Value → Heap → Prop} (hO : St H Γ) (i : Nat) (hi : Γ[i]? = some (p, ⟨tbC t, w⟩)) (hx : Ix x) (ho : o = x.toNat * 36) (hk : K (agg (slC (t.sl x))) H) : opW (loadAgg 36 (ptr p o) H) K := by
  rcases hx with rfl | rfl
  · have ho : o = 0 := ho
    subst ho
    exact loadAgg_at hO i hi (show _ = slC t.a from rfl) rfl (by omega) hk
  · have ho : o = 36 := ho
    subst ho
    exact loadAgg_at hO i hi (show _ = slC t.b from rfl) rfl (by omega) hk
theorem load_st {p o : Nat} {w : Bool} {x : Int} {K : Value → Heap → Prop} (hO : St H Γ) (i : Nat) (hi : Γ[i]? = some (p, ⟨tbC t, w⟩)) (hx : Ix x) (ho : o = x.toNat * 36) (hk : K (int (t.sl x).st) H) : opW (loadOne (ptr p o) H) K := by
  rcases hx with rfl | rfl
  · have ho : o = 0 := ho
    subst ho
    exact load_at hO i hi rfl hk
  · have ho : o = 36 := ho
    subst ho
    exact load_at hO i hi rfl hk
theorem table_index_spec {x : Int} (hk : K (.bool (decide (Ix x))) H) : wCall P n_table_index [int x] H K := by
  apply table_index_ok; unfold table_index
  repeat (first | refine opP_i (by first | exact qa | exact qs | exact nilCheck_ptr | exact offPtr_ptr | exact bin_eql | exact bin_neq | exact bin_lss | exact bin_gtr | exact bin_leq | exact bin_geq | exact un_not | exact pick_true | exact pick_false | exact qy | exact qn | exact qi | exact qj) ?_ | refine opW_i (by first | exact lenSl_sl | exact min_w | exact max_w) ?_ | refine wy ?_ | refine wn ?_ | refine wIf_t rfl ?_ | refine wIf_f rfl ?_ | refine cond_yes rfl ?_ | refine cond_no rfl ?_)
  by_cases h : x = 0
  · repeat (first | refine opP_i (by first | exact qa | exact qs | exact nilCheck_ptr | exact offPtr_ptr | exact bin_eql | exact bin_neq | exact bin_lss | exact bin_gtr | exact bin_leq | exact bin_geq | exact un_not | exact pick_true | exact pick_false | exact qy | exact qn | exact qi | exact qj) ?_ | refine opW_i (by first | exact lenSl_sl | exact min_w | exact max_w) ?_ | refine wy ?_ | refine wn ?_ | refine wIf_t rfl ?_ | refine wIf_f rfl ?_ | refine cond_yes rfl ?_ | refine cond_no rfl ?_)
    rw [decide_eq_true (show Ix x from .inl h)] at hk
    exact hk
  · repeat (first | refine opP_i (by first | exact qa | exact qs | exact nilCheck_ptr | exact offPtr_ptr | exact bin_eql | exact bin_neq | exact bin_lss | exact bin_gtr | exact bin_leq | exact bin_geq | exact un_not | exact pick_true | exact pick_false | exact qy | exact qn | exact qi | exact qj) ?_ | refine opW_i (by first | exact lenSl_sl | exact min_w | exact max_w) ?_ | refine wy ?_ | refine wn ?_ | refine wIf_t rfl ?_ | refine wIf_f rfl ?_ | refine cond_yes rfl ?_ | refine cond_no rfl ?_)
    rw [show decide (Ix x) = decide (x = 1) from decide_eq_decide.2 (by unfold Ix; omega)] at hk
    exact hk
theorem table_Right_spec (hO : St H Γ) (hk : ∀ H', St H' Γ → K (.bool (decide (TRight t))) H') : wCall P n_table_Right [agg (tbC t)] H K := by
  apply table_Right_ok; unfold table_Right
  refine new_at hO ?_
  intro p H hO
  repeat (first | refine opP_i (by first | exact qa | exact qs | exact nilCheck_ptr | exact offPtr_ptr | exact bin_eql | exact bin_neq | exact bin_lss | exact bin_gtr | exact bin_leq | exact bin_geq | exact un_not | exact pick_true | exact pick_false | exact qy | exact qn | exact qi | exact qj) ?_ | refine opW_i (by first | exact lenSl_sl | exact min_w | exact max_w) ?_ | refine wy ?_ | refine wn ?_ | refine wIf_t rfl ?_ | refine wIf_f rfl ?_ | refine cond_yes rfl ?_ | refine cond_no rfl ?_ | refine ld hO 0 rfl rfl ?_ | refine ld hO 1 rfl rfl ?_ | refine ld hO 2 rfl rfl ?_ | refine ld hO 3 rfl rfl ?_ | refine ld hO 4 rfl rfl ?_ | refine ld hO 5 rfl rfl ?_)
  refine load_slot (t := t) (x := 0) hO (Γ.length + 0) (at_r rfl) (.inl rfl) rfl ?_
  refine slot_Right_spec hO ?_
  intro H hO
  by_cases h1 : SRight t.a
  · rw [show decide (SRight (t.sl 0)) = true from decide_eq_true h1]
    repeat (first | refine opP_i (by first | exact qa | exact qs | exact nilCheck_ptr | exact offPtr_ptr | exact bin_eql | exact bin_neq | exact bin_lss | exact bin_gtr | exact bin_leq | exact bin_geq | exact un_not | exact pick_true | exact pick_false | exact qy | exact qn | exact qi | exact qj) ?_ | refine opW_i (by first | exact lenSl_sl | exact min_w | exact max_w) ?_ | refine wy ?_ | refine wn ?_ | refine wIf_t rfl ?_ | refine wIf_f rfl ?_ | refine cond_yes rfl ?_ | refine cond_no rfl ?_ | refine ld hO 0 rfl rfl ?_ | refine ld hO 1 rfl rfl ?_ | refine ld hO 2 rfl rfl ?_ | refine ld hO 3 rfl rfl ?_ | refine ld hO 4 rfl rfl ?_ | refine ld hO 5 rfl rfl ?_)
    refine load_slot (t := t) (x := 1) hO (Γ.length + 0) (at_r rfl) (.inr rfl) rfl ?_
    refine slot_Right_spec hO ?_
    intro H hO
    by_cases h2 : SRight t.b
    · rw [show decide (SRight (t.sl 1)) = true from decide_eq_true h2]
      repeat (first | refine opP_i (by first | exact qa | exact qs | exact nilCheck_ptr | exact offPtr_ptr | exact bin_eql | exact bin_neq | exact bin_lss | exact bin_gtr | exact bin_leq | exact bin_geq | exact un_not | exact pick_true | exact pick_false | exact qy | exact qn | exact qi | exact qj) ?_ | refine opW_i (by first | exact lenSl_sl | exact min_w | exact max_w) ?_ | refine wy ?_ | refine wn ?_ | refine wIf_t rfl ?_ | refine wIf_f rfl ?_ | refine cond_yes rfl ?_ | refine cond_no rfl ?_ | refine ld hO 0 rfl rfl ?_ | refine ld hO 1 rfl rfl ?_ | refine ld hO 2 rfl rfl ?_ | refine ld hO 3 rfl rfl ?_ | refine ld hO 4 rfl rfl ?_ | refine ld hO 5 rfl rfl ?_)
      refine table_index_spec ?_
      by_cases h3 : Ix t.act
      · rw [decide_eq_true h3]
        repeat (first | refine opP_i (by first | exact qa | exact qs | exact nilCheck_ptr | exact offPtr_ptr | exact bin_eql | exact bin_neq | exact bin_lss | exact bin_gtr | exact bin_leq | exact bin_geq | exact un_not | exact pick_true | exact pick_false | exact qy | exact qn | exact qi | exact qj) ?_ | refine opW_i (by first | exact lenSl_sl | exact min_w | exact max_w) ?_ | refine wy ?_ | refine wn ?_ | refine wIf_t rfl ?_ | refine wIf_f rfl ?_ | refine cond_yes rfl ?_ | refine cond_no rfl ?_ | refine ld hO 0 rfl rfl ?_ | refine ld hO 1 rfl rfl ?_ | refine ld hO 2 rfl rfl ?_ | refine ld hO 3 rfl rfl ?_ | refine ld hO 4 rfl rfl ?_ | refine ld hO 5 rfl rfl ?_)
        by_cases h4 : t.boo = -1
        · repeat (first | refine opP_i (by first | exact qa | exact qs | exact nilCheck_ptr | exact offPtr_ptr | exact bin_eql | exact bin_neq | exact bin_lss | exact bin_gtr | exact bin_leq | exact bin_geq | exact un_not | exact pick_true | exact pick_false | exact qy | exact qn | exact qi | exact qj) ?_ | refine opW_i (by first | exact lenSl_sl | exact min_w | exact max_w) ?_ | refine wy ?_ | refine wn ?_ | refine wIf_t rfl ?_ | refine wIf_f rfl ?_ | refine cond_yes rfl ?_ | refine cond_no rfl ?_ | refine ld hO 0 rfl rfl ?_ | refine ld hO 1 rfl rfl ?_ | refine ld hO 2 rfl rfl ?_ | refine ld hO 3 rfl rfl ?_ | refine ld hO 4 rfl rfl ?_ | refine ld hO 5 rfl rfl ?_)
          rw [show decide (TRight t) = decide (t.flo ≤ 281474976710656) from decide_eq_decide.2 ⟨fun h => h.2.2.2.2, fun h => ⟨h1, h2, h3, .inl h4, h⟩⟩] at hk
          exact hk _ hO.left
        · repeat (first | refine opP_i (by first | exact qa | exact qs | exact nilCheck_ptr | exact offPtr_ptr | exact bin_eql | exact bin_neq | exact bin_lss | exact bin_gtr | exact bin_leq | exact bin_geq | exact un_not | exact pick_true | exact pick_false | exact qy | exact qn | exact qi | exact qj) ?_ | refine opW_i (by first | exact lenSl_sl | exact min_w | exact max_w) ?_ | refine wy ?_ | refine wn ?_ | refine wIf_t rfl ?_ | refine wIf_f rfl ?_ | refine cond_yes rfl ?_ | refine cond_no rfl ?_ | refine ld hO 0 rfl rfl ?_ | refine ld hO 1 rfl rfl ?_ | refine ld hO 2 rfl rfl ?_ | refine ld hO 3 rfl rfl ?_ | refine ld hO 4 rfl rfl ?_ | refine ld hO 5 rfl rfl ?_)
          refine table_index_spec ?_
          by_cases h5 : Ix t.boo
          · rw [decide_eq_true h5]
            repeat (first | refine opP_i (by first | exact qa | exact qs | exact nilCheck_ptr | exact offPtr_ptr | exact bin_eql | exact bin_neq | exact bin_lss | exact bin_gtr | exact bin_leq | exact bin_geq | exact un_not | exact pick_true | exact pick_false | exact qy | exact qn | exact qi | exact qj) ?_ | refine opW_i (by first | exact lenSl_sl | exact min_w | exact max_w) ?_ | refine wy ?_ | refine wn ?_ | refine wIf_t rfl ?_ | refine wIf_f rfl ?_ | refine cond_yes rfl ?_ | refine cond_no rfl ?_ | refine ld hO 0 rfl rfl ?_ | refine ld hO 1 rfl rfl ?_ | refine ld hO 2 rfl rfl ?_ | refine ld hO 3 rfl rfl ?_ | refine ld hO 4 rfl rfl ?_ | refine ld hO 5 rfl rfl ?_)
            rw [show decide (TRight t) = decide (t.flo ≤ 281474976710656) from decide_eq_decide.2 ⟨fun h => h.2.2.2.2, fun h => ⟨h1, h2, h3, .inr h5, h⟩⟩] at hk
            exact hk _ hO.left
          · rw [decide_eq_false h5]
            repeat (first | refine opP_i (by first | exact qa | exact qs | exact nilCheck_ptr | exact offPtr_ptr | exact bin_eql | exact bin_neq | exact bin_lss | exact bin_gtr | exact bin_leq | exact bin_geq | exact un_not | exact pick_true | exact pick_false | exact qy | exact qn | exact qi | exact qj) ?_ | refine opW_i (by first | exact lenSl_sl | exact min_w | exact max_w) ?_ | refine wy ?_ | refine wn ?_ | refine wIf_t rfl ?_ | refine wIf_f rfl ?_ | refine cond_yes rfl ?_ | refine cond_no rfl ?_ | refine ld hO 0 rfl rfl ?_ | refine ld hO 1 rfl rfl ?_ | refine ld hO 2 rfl rfl ?_ | refine ld hO 3 rfl rfl ?_ | refine ld hO 4 rfl rfl ?_ | refine ld hO 5 rfl rfl ?_)
            rw [decide_eq_false (show ¬ TRight t from fun h => by rcases h.2.2.2.1 with h | h; exact h4 h; exact h5 h)] at hk
            exact hk _ hO.left
      · rw [decide_eq_false h3]
        repeat (first | refine opP_i (by first | exact qa | exact qs | exact nilCheck_ptr | exact offPtr_ptr | exact bin_eql | exact bin_neq | exact bin_lss | exact bin_gtr | exact bin_leq | exact bin_geq | exact un_not | exact pick_true | exact pick_false | exact qy | exact qn | exact qi | exact qj) ?_ | refine opW_i (by first | exact lenSl_sl | exact min_w | exact max_w) ?_ | refine wy ?_ | refine wn ?_ | refine wIf_t rfl ?_ | refine wIf_f rfl ?_ | refine cond_yes rfl ?_ | refine cond_no rfl ?_ | refine ld hO 0 rfl rfl ?_ | refine ld hO 1 rfl rfl ?_ | refine ld hO 2 rfl rfl ?_ | refine ld hO 3 rfl rfl ?_ | refine ld hO 4 rfl rfl ?_ | refine ld hO 5 rfl rfl ?_)
        rw [decide_eq_false (show ¬ TRight t from fun h => h3 h.2.2.1)] at hk
        exact hk _ hO.left
    · rw [show decide (SRight (t.sl 1)) = false from decide_eq_false h2]
      repeat (first | refine opP_i (by first | exact qa | exact qs | exact nilCheck_ptr | exact offPtr_ptr | exact bin_eql | exact bin_neq | exact bin_lss | exact bin_gtr | exact bin_leq | exact bin_geq | exact un_not | exact pick_true | exact pick_false | exact qy | exact qn | exact qi | exact qj) ?_ | refine opW_i (by first | exact lenSl_sl | exact min_w | exact max_w) ?_ | refine wy ?_ | refine wn ?_ | refine wIf_t rfl ?_ | refine wIf_f rfl ?_ | refine cond_yes rfl ?_ | refine cond_no rfl ?_ | refine ld hO 0 rfl rfl ?_ | refine ld hO 1 rfl rfl ?_ | refine ld hO 2 rfl rfl ?_ | refine ld hO 3 rfl rfl ?_ | refine ld hO 4 rfl rfl ?_ | refine ld hO 5 rfl rfl ?_)
      rw [decide_eq_false (show ¬ TRight t from fun h => h2 h.2.1)] at hk
      exact hk _ hO.left
  · rw [show decide (SRight (t.sl 0)) = false from decide_eq_false h1]
    repeat (first | refine opP_i (by first | exact qa | exact qs | exact nilCheck_ptr | exact offPtr_ptr | exact bin_eql | exact bin_neq | exact bin_lss | exact bin_gtr | exact bin_leq | exact bin_geq | exact un_not | exact pick_true | exact pick_false | exact qy | exact qn | exact qi | exact qj) ?_ | refine opW_i (by first | exact lenSl_sl | exact min_w | exact max_w) ?_ | refine wy ?_ | refine wn ?_ | refine wIf_t rfl ?_ | refine wIf_f rfl ?_ | refine cond_yes rfl ?_ | refine cond_no rfl ?_ | refine ld hO 0 rfl rfl ?_ | refine ld hO 1 rfl rfl ?_ | refine ld hO 2 rfl rfl ?_ | refine ld hO 3 rfl rfl ?_ | refine ld hO 4 rfl rfl ?_ | refine ld hO 5 rfl rfl ?_)
    rw [decide_eq_false (show ¬ TRight t from fun h => h1 h.1)] at hk
    exact hk _ hO.left
theorem ref11_Right_spec (hO : St H Γ) (hk : ∀ H', St H' Γ → K (.bool (decide (TRight t))) H') : wCall P n_ref11_Right [agg (tbC t)] H K := by
  apply ref11_Right_ok; unfold ref11_Right
  refine new_at hO ?_
  intro p H hO
  refine join_with (fun l' H' => l' = [ptr p 0] ∧ St H' (Γ ++ [(p, ⟨tbC t, true⟩)]) ∧ SRight t.a ∧ SRight t.b) ?_ ?_
  · repeat (first | refine opP_i (by first | exact qa | exact qs | exact nilCheck_ptr | exact offPtr_ptr | exact bin_eql | exact bin_neq | exact bin_lss | exact bin_gtr | exact bin_leq | exact bin_geq | exact un_not | exact pick_true | exact pick_false | exact qy | exact qn | exact qi | exact qj) ?_ | refine opW_i (by first | exact lenSl_sl | exact min_w | exact max_w) ?_ | refine wy ?_ | refine wn ?_ | refine wIf_t rfl ?_ | refine wIf_f rfl ?_ | refine cond_yes rfl ?_ | refine cond_no rfl ?_ | refine ld hO 0 rfl rfl ?_ | refine ld hO 1 rfl rfl ?_ | refine ld hO 2 rfl rfl ?_ | refine ld hO 3 rfl rfl ?_ | refine ld hO 4 rfl rfl ?_ | refine ld hO 5 rfl rfl ?_)
    refine load_slot (t := t) (x := 0) hO (Γ.length + 0) (at_r rfl) (.inl rfl) rfl ?_
    refine ref10_Right_spec hO ?_
    intro H hO
    by_cases h1 : SRight t.a
    · rw [show decide (SRight (t.sl 0)) = true from decide_eq_true h1]
      repeat (first | refine opP_i (by first | exact qa | exact qs | exact nilCheck_ptr | exact offPtr_ptr | exact bin_eql | exact bin_neq | exact bin_lss | exact bin_gtr | exact bin_leq | exact bin_geq | exact un_not | exact pick_true | exact pick_false | exact qy | exact qn | exact qi | exact qj) ?_ | refine opW_i (by first | exact lenSl_sl | exact min_w | exact max_w) ?_ | refine wy ?_ | refine wn ?_ | refine wIf_t rfl ?_ | refine wIf_f rfl ?_ | refine cond_yes rfl ?_ | refine cond_no rfl ?_ | refine ld hO 0 rfl rfl ?_ | refine ld hO 1 rfl rfl ?_ | refine ld hO 2 rfl rfl ?_ | refine ld hO 3 rfl rfl ?_ | refine ld hO 4 rfl rfl ?_ | refine ld hO 5 rfl rfl ?_)
      refine load_slot (t := t) (x := 1) hO (Γ.length + 0) (at_r rfl) (.inr rfl) rfl ?_
      refine ref10_Right_spec hO ?_
      intro H hO
      by_cases h2 : SRight t.b
      · rw [show decide (SRight (t.sl 1)) = true from decide_eq_true h2]
        repeat (first | refine opP_i (by first | exact qa | exact qs | exact nilCheck_ptr | exact offPtr_ptr | exact bin_eql | exact bin_neq | exact bin_lss | exact bin_gtr | exact bin_leq | exact bin_geq | exact un_not | exact pick_true | exact pick_false | exact qy | exact qn | exact qi | exact qj) ?_ | refine opW_i (by first | exact lenSl_sl | exact min_w | exact max_w) ?_ | refine wy ?_ | refine wn ?_ | refine wIf_t rfl ?_ | refine wIf_f rfl ?_ | refine cond_yes rfl ?_ | refine cond_no rfl ?_ | refine ld hO 0 rfl rfl ?_ | refine ld hO 1 rfl rfl ?_ | refine ld hO 2 rfl rfl ?_ | refine ld hO 3 rfl rfl ?_ | refine ld hO 4 rfl rfl ?_ | refine ld hO 5 rfl rfl ?_)
        exact ⟨rfl, hO, h1, h2⟩
      · rw [show decide (SRight (t.sl 1)) = false from decide_eq_false h2]
        repeat (first | refine opP_i (by first | exact qa | exact qs | exact nilCheck_ptr | exact offPtr_ptr | exact bin_eql | exact bin_neq | exact bin_lss | exact bin_gtr | exact bin_leq | exact bin_geq | exact un_not | exact pick_true | exact pick_false | exact qy | exact qn | exact qi | exact qj) ?_ | refine opW_i (by first | exact lenSl_sl | exact min_w | exact max_w) ?_ | refine wy ?_ | refine wn ?_ | refine wIf_t rfl ?_ | refine wIf_f rfl ?_ | refine cond_yes rfl ?_ | refine cond_no rfl ?_ | refine ld hO 0 rfl rfl ?_ | refine ld hO 1 rfl rfl ?_ | refine ld hO 2 rfl rfl ?_ | refine ld hO 3 rfl rfl ?_ | refine ld hO 4 rfl rfl ?_ | refine ld hO 5 rfl rfl ?_)
        rw [decide_eq_false (show ¬ TRight t from fun h => h2 h.2.1)] at hk
        exact hk _ hO.left
    · rw [show decide (SRight (t.sl 0)) = false from decide_eq_false h1]
      repeat (first | refine opP_i (by first | exact qa | exact qs | exact nilCheck_ptr | exact offPtr_ptr | exact bin_eql | exact bin_neq | exact bin_lss | exact bin_gtr | exact bin_leq | exact bin_geq | exact un_not | exact pick_true | exact pick_false | exact qy | exact qn | exact qi | exact qj) ?_ | refine opW_i (by first | exact lenSl_sl | exact min_w | exact max_w) ?_ | refine wy ?_ | refine wn ?_ | refine wIf_t rfl ?_ | refine wIf_f rfl ?_ | refine cond_yes rfl ?_ | refine cond_no rfl ?_ | refine ld hO 0 rfl rfl ?_ | refine ld hO 1 rfl rfl ?_ | refine ld hO 2 rfl rfl ?_ | refine ld hO 3 rfl rfl ?_ | refine ld hO 4 rfl rfl ?_ | refine ld hO 5 rfl rfl ?_)
      rw [decide_eq_false (show ¬ TRight t from fun h => h1 h.1)] at hk
      exact hk _ hO.left
  clear hO
  rintro l' H ⟨rfl, hO, h1, h2⟩
  try simp only [nth_zero, nth_succ]
  repeat (first | refine opP_i (by first | exact qa | exact qs | exact nilCheck_ptr | exact offPtr_ptr | exact bin_eql | exact bin_neq | exact bin_lss | exact bin_gtr | exact bin_leq | exact bin_geq | exact un_not | exact pick_true | exact pick_false | exact qy | exact qn | exact qi | exact qj) ?_ | refine opW_i (by first | exact lenSl_sl | exact min_w | exact max_w) ?_ | refine wy ?_ | refine wn ?_ | refine wIf_t rfl ?_ | refine wIf_f rfl ?_ | refine cond_yes rfl ?_ | refine cond_no rfl ?_ | refine ld hO 0 rfl rfl ?_ | refine ld hO 1 rfl rfl ?_ | refine ld hO 2 rfl rfl ?_ | refine ld hO 3 rfl rfl ?_ | refine ld hO 4 rfl rfl ?_ | refine ld hO 5 rfl rfl ?_)
  by_cases a1 : 0 ≤ t.act
  · repeat (first | refine opP_i (by first | exact qa | exact qs | exact nilCheck_ptr | exact offPtr_ptr | exact bin_eql | exact bin_neq | exact bin_lss | exact bin_gtr | exact bin_leq | exact bin_geq | exact un_not | exact pick_true | exact pick_false | exact qy | exact qn | exact qi | exact qj) ?_ | refine opW_i (by first | exact lenSl_sl | exact min_w | exact max_w) ?_ | refine wy ?_ | refine wn ?_ | refine wIf_t rfl ?_ | refine wIf_f rfl ?_ | refine cond_yes rfl ?_ | refine cond_no rfl ?_ | refine ld hO 0 rfl rfl ?_ | refine ld hO 1 rfl rfl ?_ | refine ld hO 2 rfl rfl ?_ | refine ld hO 3 rfl rfl ?_ | refine ld hO 4 rfl rfl ?_ | refine ld hO 5 rfl rfl ?_)
    by_cases a2 : t.act ≤ 1
    · repeat (first | refine opP_i (by first | exact qa | exact qs | exact nilCheck_ptr | exact offPtr_ptr | exact bin_eql | exact bin_neq | exact bin_lss | exact bin_gtr | exact bin_leq | exact bin_geq | exact un_not | exact pick_true | exact pick_false | exact qy | exact qn | exact qi | exact qj) ?_ | refine opW_i (by first | exact lenSl_sl | exact min_w | exact max_w) ?_ | refine wy ?_ | refine wn ?_ | refine wIf_t rfl ?_ | refine wIf_f rfl ?_ | refine cond_yes rfl ?_ | refine cond_no rfl ?_ | refine ld hO 0 rfl rfl ?_ | refine ld hO 1 rfl rfl ?_ | refine ld hO 2 rfl rfl ?_ | refine ld hO 3 rfl rfl ?_ | refine ld hO 4 rfl rfl ?_ | refine ld hO 5 rfl rfl ?_)
      by_cases b1 : -1 ≤ t.boo
      · repeat (first | refine opP_i (by first | exact qa | exact qs | exact nilCheck_ptr | exact offPtr_ptr | exact bin_eql | exact bin_neq | exact bin_lss | exact bin_gtr | exact bin_leq | exact bin_geq | exact un_not | exact pick_true | exact pick_false | exact qy | exact qn | exact qi | exact qj) ?_ | refine opW_i (by first | exact lenSl_sl | exact min_w | exact max_w) ?_ | refine wy ?_ | refine wn ?_ | refine wIf_t rfl ?_ | refine wIf_f rfl ?_ | refine cond_yes rfl ?_ | refine cond_no rfl ?_ | refine ld hO 0 rfl rfl ?_ | refine ld hO 1 rfl rfl ?_ | refine ld hO 2 rfl rfl ?_ | refine ld hO 3 rfl rfl ?_ | refine ld hO 4 rfl rfl ?_ | refine ld hO 5 rfl rfl ?_)
        by_cases b2 : t.boo ≤ 1
        · repeat (first | refine opP_i (by first | exact qa | exact qs | exact nilCheck_ptr | exact offPtr_ptr | exact bin_eql | exact bin_neq | exact bin_lss | exact bin_gtr | exact bin_leq | exact bin_geq | exact un_not | exact pick_true | exact pick_false | exact qy | exact qn | exact qi | exact qj) ?_ | refine opW_i (by first | exact lenSl_sl | exact min_w | exact max_w) ?_ | refine wy ?_ | refine wn ?_ | refine wIf_t rfl ?_ | refine wIf_f rfl ?_ | refine cond_yes rfl ?_ | refine cond_no rfl ?_ | refine ld hO 0 rfl rfl ?_ | refine ld hO 1 rfl rfl ?_ | refine ld hO 2 rfl rfl ?_ | refine ld hO 3 rfl rfl ?_ | refine ld hO 4 rfl rfl ?_ | refine ld hO 5 rfl rfl ?_)
          rw [show decide (TRight t) = decide (t.flo ≤ 281474976710656) from decide_eq_decide.2 ⟨fun h => h.2.2.2.2, fun h => ⟨h1, h2, by unfold Ix; omega, by unfold Ix; omega, h⟩⟩] at hk
          exact hk _ hO.left
        · repeat (first | refine opP_i (by first | exact qa | exact qs | exact nilCheck_ptr | exact offPtr_ptr | exact bin_eql | exact bin_neq | exact bin_lss | exact bin_gtr | exact bin_leq | exact bin_geq | exact un_not | exact pick_true | exact pick_false | exact qy | exact qn | exact qi | exact qj) ?_ | refine opW_i (by first | exact lenSl_sl | exact min_w | exact max_w) ?_ | refine wy ?_ | refine wn ?_ | refine wIf_t rfl ?_ | refine wIf_f rfl ?_ | refine cond_yes rfl ?_ | refine cond_no rfl ?_ | refine ld hO 0 rfl rfl ?_ | refine ld hO 1 rfl rfl ?_ | refine ld hO 2 rfl rfl ?_ | refine ld hO 3 rfl rfl ?_ | refine ld hO 4 rfl rfl ?_ | refine ld hO 5 rfl rfl ?_)
          rw [decide_eq_false (show ¬ TRight t from fun h => by have := h.2.2.2.1; unfold Ix at this; omega)] at hk
          exact hk _ hO.left
      · repeat (first | refine opP_i (by first | exact qa | exact qs | exact nilCheck_ptr | exact offPtr_ptr | exact bin_eql | exact bin_neq | exact bin_lss | exact bin_gtr | exact bin_leq | exact bin_geq | exact un_not | exact pick_true | exact pick_false | exact qy | exact qn | exact qi | exact qj) ?_ | refine opW_i (by first | exact lenSl_sl | exact min_w | exact max_w) ?_ | refine wy ?_ | refine wn ?_ | refine wIf_t rfl ?_ | refine wIf_f rfl ?_ | refine cond_yes rfl ?_ | refine cond_no rfl ?_ | refine ld hO 0 rfl rfl ?_ | refine ld hO 1 rfl rfl ?_ | refine ld hO 2 rfl rfl ?_ | refine ld hO 3 rfl rfl ?_ | refine ld hO 4 rfl rfl ?_ | refine ld hO 5 rfl rfl ?_)
        rw [decide_eq_false (show ¬ TRight t from fun h => by have := h.2.2.2.1; unfold Ix at this; omega)] at hk
        exact hk _ hO.left
    · repeat (first | refine opP_i (by first | exact qa | exact qs | exact nilCheck_ptr | exact offPtr_ptr | exact bin_eql | exact bin_neq | exact bin_lss | exact bin_gtr | exact bin_leq | exact bin_geq | exact un_not | exact pick_true | exact pick_false | exact qy | exact qn | exact qi | exact qj) ?_ | refine opW_i (by first | exact lenSl_sl | exact min_w | exact max_w) ?_ | refine wy ?_ | refine wn ?_ | refine wIf_t rfl ?_ | refine wIf_f rfl ?_ | refine cond_yes rfl ?_ | refine cond_no rfl ?_ | refine ld hO 0 rfl rfl ?_ | refine ld hO 1 rfl rfl ?_ | refine ld hO 2 rfl rfl ?_ | refine ld hO 3 rfl rfl ?_ | refine ld hO 4 rfl rfl ?_ | refine ld hO 5 rfl rfl ?_)
      rw [decide_eq_false (show ¬ TRight t from fun h => by have := h.2.2.1; unfold Ix at this; omega)] at hk
      exact hk _ hO.left
  · repeat (first | refine opP_i (by first | exact qa | exact qs | exact nilCheck_ptr | exact offPtr_ptr | exact bin_eql | exact bin_neq | exact bin_lss | exact bin_gtr | exact bin_leq | exact bin_geq | exact un_not | exact pick_true | exact pick_false | exact qy | exact qn | exact qi | exact qj) ?_ | refine opW_i (by first | exact lenSl_sl | exact min_w | exact max_w) ?_ | refine wy ?_ | refine wn ?_ | refine wIf_t rfl ?_ | refine wIf_f rfl ?_ | refine cond_yes rfl ?_ | refine cond_no rfl ?_ | refine ld hO 0 rfl rfl ?_ | refine ld hO 1 rfl rfl ?_ | refine ld hO 2 rfl rfl ?_ | refine ld hO 3 rfl rfl ?_ | refine ld hO 4 rfl rfl ?_ | refine ld hO 5 rfl rfl ?_)
    rw [decide_eq_false (show ¬ TRight t from fun h => by have := h.2.2.1; unfold Ix at this; omega)] at hk
    exact hk _ hO.left
theorem tb_simple (t : Tb) : (tbC t).all simpleB = true := rfl
/-- which slot is to be booted -/
def vPick (t : Tb) : Int := if SBoot (t.sl t.act) then t.act else if SBoot (t.sl (1 - t.act)) then 1 - t.act else -1
def tPick (t : Tb) : Int := if TRight t then vPick t else -1
theorem Ix.flip {x : Int} (h : Ix x) : Ix (1 - x) := by unfold Ix at *; omega
end
variable {H : Heap} {Γ : List (Nat × Blk)} {K : Value → Heap → Prop}
section
variable {t : Tb}
theorem ext0 {a b : Value} : extA 0 (.tuple [a, b].toArray) = some a := rfl
theorem ext1 {a b : Value} : extA 1 (.tuple [a, b].toArray) = some b := rfl
def TAim (t : Tb) : Prop := TRight t ∧ t.act = t.boo ∧ (t.sl t.act).st = 3
instance (t : Tb) : Decidable (TAim t) := by unfold TAim; infer_instance
/-- which slot may be written -/
def tAim (t : Tb) : Int := if TAim t then 1 - t.act else -1
/-! changes -/
def cSet (i : Int) (s : Sl) : Ch := ⟨1, i, 0, s, 0⟩
def cAct (i : Int) : Ch := ⟨2, 0, i, slz 0, 0⟩
def cBoo (i : Int) : Ch := ⟨3, 0, i, slz 0, 0⟩
def cFlo (v : Int) : Ch := ⟨4, 0, 0, slz 0, v⟩
theorem b58s (i : Int) (s : Sl) : (buildC P 41).f [(0, int 1), (1, int i), (3, agg (slC s))] = some (agg (chC (cSet i s))) := by kernel_rfl
theorem b58a (i : Int) : (buildC P 41).f [(0, int 2), (2, int i)] = some (agg (chC (cAct i))) := by kernel_rfl
theorem b58b (i : Int) : (buildC P 41).f [(0, int 3), (2, int i)] = some (agg (chC (cBoo i))) := by kernel_rfl
theorem b58f (v : Int) : (buildC P 41).f [(0, int 4), (4, .int .u64 v)] = some (agg (chC (cFlo v))) := by kernel_rfl
theorem bs1 (c : Ch) (H : Heap) : (buildSliceC P 43 1).f [(0, agg (chC c))] H = some (sl H.next 0 1 81, H.push (chC c)) := by kernel_rfl
theorem bs2 (c c' : Ch) (H : Heap) : (buildSliceC P 43 2).f [(0, agg (chC c)), (1, agg (chC c'))] H = some (sl H.next 0 2 81, H.push (chC c ++ chC c')) := by kernel_rfl
theorem St.mid {L R : List (Nat × Blk)} (h : St H ((Γ ++ L) ++ R)) : St H (Γ ++ R) := h.sub (List.Sublist.append (List.sublist_append_left Γ L) (List.Sublist.refl R))
/-- the cells of changes -/
def chs (l : List Ch) : List Value := l.flatMap chC
/-- a list of changes that was made, and an error -/
abbrev Made (Γ : List (Nat × Blk)) (K : Value → Heap → Prop) (r : List Ch × Int) : Prop := ∀ (H' : Heap) (v : Value), St H' (Γ ++ outB v (chs r.1)) → Own 40 v r.1.length (chs r.1) → K (.tuple [v, int r.2].toArray) H'
theorem Made.none {e : Int} (h : Made Γ K ([], e)) (hO : St H Γ) : K (.tuple [nilSl, int e].toArray) H := h H nilSl (by show St H (Γ ++ []); rw [List.append_nil]; exact hO) Own.nil
theorem chC_len (c : Ch) : (chC c).length = 40 := rfl
theorem chs_len : ∀ l : List Ch, (chs l).length = l.length * 40
  | [] => rfl
  | c :: l => by
    show (chC c ++ chs l).length = _
    rw [List.length_append, chC_len, chs_len l, List.length_cons]; omega
theorem chs_one (c : Ch) : chs [c] = chC c := List.append_nil _
theorem chs_two (c c' : Ch) : chs [c, c'] = chC c ++ chC c' := by show chC c ++ (chC c' ++ []) = _; rw [List.append_nil]
theorem Made.slice {L : List (Nat × Blk)} {p n : Nat} {l : List Ch} {cs : List Value} {e : Int} (h : Made Γ K (l, e)) (hc : chs l = cs) (hn : l.length = n) (hO : St H ((Γ ++ L) ++ [(p, ⟨cs, true⟩)])) (cap : Nat) (hcap : cap = 80 ∨ cap = 81) : K (.tuple [sl p 0 n cap, int e].toArray) H := by
  subst hc; subst hn
  refine h H (sl p 0 l.length cap) (St.mid hO) (.inr ⟨p, ?_, chs_len l⟩)
  rcases hcap with rfl | rfl
  · exact .inl rfl
  · exact .inr rfl
theorem Made.one {L : List (Nat × Blk)} {p : Nat} {c : Ch} {e : Int} (h : Made Γ K ([c], e)) (hO : St H ((Γ ++ L) ++ [(p, ⟨chC c, true⟩)])) : K (.tuple [sl p 0 1 81, int e].toArray) H := h.slice (chs_one c) rfl hO 81 (.inr rfl)
theorem Made.two {L : List (Nat × Blk)} {p : Nat} {c c' : Ch} {e : Int} (h : Made Γ K ([c, c'], e)) (hO : St H ((Γ ++ L) ++ [(p, ⟨chC c ++ chC c', true⟩)])) : K (.tuple [sl p 0 2 81, int e].toArray) H := h.slice (chs_two c c') rfl hO 81 (.inr rfl)
def tWipe (t : Tb) : List Ch × Int := if tAim t = -1 then ([], 101) else ([cSet (tAim t) (slz 1)], 0)
end
variable {H : Heap} {Γ : List (Nat × Blk)} {K : Value → Heap → Prop}
section
variable {t : Tb}
theorem chC_one (c : Ch) : (chC c).all oneCell = true := rfl
/-- one change more -/
theorem append_ch {v : Value} {l : List Ch} {c : Ch} {q : Nat} (hO : St H ((Γ ++ outB v (chs l)) ++ [(q, ⟨chC c, true⟩)])) (hv : Own 40 v l.length (chs l)) (hl : l.length ≤ 100)
    (hk : ∀ H' v', St H' (Γ ++ outB v' (chs (l ++ [c]))) → Own 40 v' (l ++ [c]).length (chs (l ++ [c])) → K v' H') : opW (appendWith 40 96 v (sl q 0 1 81) H) K := by
  have e : chs (l ++ [c]) = chs l ++ chC c := by unfold chs; rw [List.flatMap_append]; exact congrArg _ (List.append_nil _)
  refine append_own hO.left hv (by omega) (m := 1) (new := chC c) rfl ?_ (by omega) (by omega) (by omega) (chC_one c) rfl ?_
  · have := elems_sl (H := H) (size := 40) (n := 1) (p := q) (o := 0) (c := 81) (b := ⟨chC c, true⟩) (hO.at ((Γ ++ outB v (chs l)).length + 0) (at_r rfl) (.inl rfl)) (by rw [chC_len]; omega)
    rw [List.drop_zero, List.take_of_length_le (by rw [chC_len]; omega)] at this
    exact this
  · intro p H' hO' hown
    refine hk H' _ ?_ ?_
    · rw [e]; exact hO'
    · rw [e, List.length_append]; exact hown
def TLand (t : Tb) (i : Int) (s : Sl) : Prop := TRight t ∧ Ix i ∧ i ≠ t.act ∧ (t.sl i).st = 1 ∧ SRight s ∧ s.st = 2
instance (t : Tb) (i : Int) (s : Sl) : Decidable (TLand t i s) := by unfold TLand; infer_instance
end
variable {H : Heap} {Γ : List (Nat × Blk)} {K : Value → Heap → Prop}
section
variable {t : Tb}
theorem Made.app {L : List (Nat × Blk)} {v : Value} {l : List Ch} {e : Int} (h : Made Γ K (l, e)) (hO : St H ((Γ ++ L) ++ outB v (chs l))) (hv : Own 40 v l.length (chs l)) : K (.tuple [v, int e].toArray) H := h H v (St.mid hO) hv
def TGood (t : Tb) (i : Int) : Prop := TRight t ∧ Ix i ∧ i = t.boo
instance (t : Tb) (i : Int) : Decidable (TGood t i) := by unfold TGood; infer_instance
def TBad (t : Tb) (i : Int) : Prop := TRight t ∧ Ix i
instance (t : Tb) (i : Int) : Decidable (TBad t i) := by unfold TBad; infer_instance
theorem Ix.bd {x : Int} (h : Ix x) : 0 ≤ x ∧ x ≤ 1 := by unfold Ix at h; omega
theorem own_one (c : Ch) (p : Nat) : Own 40 (sl p 0 1 81) [c].length (chs [c]) := .inr ⟨p, .inr rfl, chs_len [c]⟩
end
variable {H : Heap} {Γ : List (Nat × Blk)} {K : Value → Heap → Prop}
section
variable {t : Tb}
theorem bs0 (H : Heap) : (buildSliceC P 43 0).f [] H = some (sl H.next 0 0 81, H.push []) := by kernel_rfl
theorem pick_ix (h : tPick t ≠ -1) : TRight t ∧ Ix (tPick t) := by
  unfold tPick at *
  by_cases hr : TRight t
  · rw [if_pos hr] at *
    refine ⟨hr, ?_⟩
    have := hr.2.2.1
    unfold vPick at *
    split
    · exact this
    · split
      · exact this.flip
      · rename_i h1 h2; rw [if_neg h1, if_neg h2] at h; exact absurd rfl h
  · rw [if_neg hr] at h; exact absurd rfl h
/-- a slot, a list of changes that was made -/
abbrev MadeP (Γ : List (Nat × Blk)) (K : Value → Heap → Prop) (p : Int) (l : List Ch) : Prop := ∀ (H' : Heap) (v : Value), St H' (Γ ++ outB v (chs l)) → Own 40 v l.length (chs l) → K (.tuple [int p, v].toArray) H'
/-- appended to nothing -/
theorem append_nil_ch {c : Ch} {q : Nat} (hO : St H (Γ ++ [(q, ⟨chC c, true⟩)]))
    (hk : ∀ H' v', St H' (Γ ++ outB v' (chs [c])) → Own 40 v' [c].length (chs [c]) → K v' H') : opW (appendWith 40 96 nilSl (sl q 0 1 81) H) K :=
  append_ch (l := []) (by rw [show outB nilSl (chs []) = [] from rfl, List.append_nil]; exact hO) Own.nil (by simp) hk
theorem TRight.sl {i : Int} (h : TRight t) : SRight (t.sl i) := by unfold Tb.sl; split; exact h.1; exact h.2.1
end
variable {H : Heap} {Γ : List (Nat × Blk)} {K : Value → Heap → Prop}
section
variable {t : Tb}
theorem Fit.join : ∀ {a b : List CK} {xs ys : List Value}, Fit a xs → Fit b ys → Fit (a ++ b) (xs ++ ys)
  | [], _, [], _, _, h => h
  | _ :: _, _, _ :: _, _, h, h2 => ⟨h.1, Fit.join h.2 h2⟩
theorem fitC (c : Ch) : Fit kC (chC c) := ⟨rfl, rfl, rfl, Fit.join (fitS c.to) ⟨rfl, trivial⟩⟩
theorem chs_at : ∀ (l : List Ch) (i : Nat) (h : i < l.length), ((chs l).drop (i * 40)).take 40 = chC l[i]
  | [], _, h => by simp at h
  | c :: l, 0, _ => by
    show ((chC c ++ chs l).drop 0).take 40 = chC c
    rw [List.drop_zero, List.take_append_of_le_length (by rw [chC_len]; omega), List.take_of_length_le (by rw [chC_len]; omega)]
  | c :: l, i + 1, h => by
    show ((chC c ++ chs l).drop ((i + 1) * 40)).take 40 = chC (l[i]'(by simpa using h))
    rw [show (i + 1) * 40 = 40 + i * 40 by omega, ← List.drop_drop, show (chC c ++ chs l).drop 40 = chs l from rfl]
    exact chs_at l i (by simpa using h)
/-- a list of changes that can be read -/
def RdC (Γ : List (Nat × Blk)) (v : Value) (l : List Ch) : Prop :=
  lenSl v = (fun H => some (int l.length, H)) ∧ (l = [] ∨ ∃ (p c j : Nat), v = sl p 0 l.length c ∧ ∃ w : Bool, Γ[j]? = some (p, (⟨chs l, w⟩ : Blk)))
theorem RdC.app {Γ Δ : List (Nat × Blk)} {v : Value} {l : List Ch} (h : RdC Γ v l) : RdC (Γ ++ Δ) v l := by
  refine ⟨h.1, ?_⟩
  rcases h.2 with h | ⟨p, c, j, h1, w, h2⟩
  · exact .inl h
  · exact .inr ⟨p, c, j, h1, w, at_l h2⟩
theorem RdC.app' {Γ Δ : List (Nat × Blk)} {v : Value} {l : List Ch} (h : RdC Δ v l) : RdC (Γ ++ Δ) v l := by
  refine ⟨h.1, ?_⟩
  rcases h.2 with h | ⟨p, c, j, h1, w, h2⟩
  · exact .inl h
  · exact .inr ⟨p, c, _, h1, w, at_r h2⟩
theorem RdC.own {v : Value} {l : List Ch} (h : Own 40 v l.length (chs l)) : RdC (outB v (chs l)) v l := by
  refine ⟨funext fun H => h.lenSl, ?_⟩
  rcases h with ⟨rfl, h, _⟩ | ⟨p, rfl | rfl, _⟩
  · exact .inl (List.length_eq_zero_iff.1 h)
  · exact .inr ⟨p, _, 0, rfl, true, rfl⟩
  · exact .inr ⟨p, _, 0, rfl, true, rfl⟩
theorem tWipe_len : (tWipe t).1.length ≤ 1000 := by unfold tWipe; split <;> simp
end
variable {H : Heap} {Γ : List (Nat × Blk)} {K : Value → Heap → Prop}
section
variable {t : Tb} {c : Ch}
theorem eqCells_join : ∀ {a a' b b' : List Value}, a.length = a'.length → eqCells (a ++ b) (a' ++ b') = (eqCells a a' && eqCells b b')
  | [], [], _, _, _ => by simp [eqCells]
  | x :: a, y :: a', b, b', h => by
    show (cellEq x y && eqCells (a ++ b) (a' ++ b')) = ((cellEq x y && eqCells a a') && eqCells b b')
    rw [eqCells_join (by simpa using h), Bool.and_assoc]
  | [], _ :: _, _, _, h => by simp at h
  | _ :: _, [], _, _, h => by simp at h
def SEq (s s' : Sl) : Prop := eqCells (slC s) (slC s') = true
instance (s s' : Sl) : Decidable (SEq s s') := by unfold SEq; infer_instance
theorem SEq.rfl' (s : Sl) : SEq s s := eqCells_self (fitS s)
theorem eq_ch (c c' : Ch) : eqCells (chC c) (chC c') = decide (c.kind = c'.kind ∧ c.slot = c'.slot ∧ c.n = c'.n ∧ SEq c.to c'.to ∧ c.ver = c'.ver) := by
  have e : eqCells (chC c) (chC c') = (cellEq (int c.kind) (int c'.kind) && (cellEq (int c.slot) (int c'.slot) && (cellEq (int c.n) (int c'.n) && eqCells (slC c.to ++ [.int .u64 c.ver]) (slC c'.to ++ [.int .u64 c'.ver])))) := rfl
  rw [e, eqCells_join (a := slC c.to) (a' := slC c'.to) rfl, Bool.eq_iff_iff, decide_eq_true_iff]
  unfold SEq
  simp [cellEq, eqCells]
def SZ (s : Sl) : Prop := SEq (slz 0) s
instance (s : Sl) : Decidable (SZ s) := by unfold SZ; infer_instance
/-- a change that can be -/
def CRight (c : Ch) : Prop :=
  (c.kind = 1 ∧ (Ix c.slot ∧ SRight c.to) ∧ c.n = 0 ∧ c.ver = 0) ∨
  (c.kind = 2 ∧ Ix c.n ∧ c.slot = 0 ∧ SZ c.to ∧ c.ver = 0) ∨
  (c.kind = 3 ∧ (c.n = -1 ∨ Ix c.n) ∧ c.slot = 0 ∧ SZ c.to ∧ c.ver = 0) ∨
  (c.kind = 4 ∧ c.ver ≤ 281474976710656 ∧ c.slot = 0 ∧ c.n = 0 ∧ SZ c.to)
instance (c : Ch) : Decidable (CRight c) := by unfold CRight; infer_instance
end
variable {H : Heap} {Γ : List (Nat × Blk)} {K : Value → Heap → Prop}
section
variable {t : Tb} {c : Ch}
theorem St.ne {i j p q : Nat} {b b' : Blk} (h : St H Γ) (hi : Γ[i]? = some (p, b)) (hj : Γ[j]? = some (q, b')) (hij : i ≠ j) : p ≠ q := by
  intro e
  subst e
  have n1 : (Γ.map (·.1))[i]? = some p := by rw [List.getElem?_map, hi]; rfl
  have n2 : (Γ.map (·.1))[j]? = some p := by rw [List.getElem?_map, hj]; rfl
  have hlt : i < (Γ.map (·.1)).length := by rw [List.length_map]; exact (List.getElem?_eq_some_iff.1 hi).1
  exact hij ((List.getElem?_inj hlt h.nd).1 (n1.trans n2.symm))
theorem apart2 {p q o o' : Nat} {k : IntKind} {x : Int} (h : p ≠ q) : cApart (idsOf [ptr p o]) (idsOf [ptr q o', .int k x]) := by
  show apartIds [p] [q] = true
  have e : Nat.beq p q = false := by
    cases hb : Nat.beq p q with
    | false => rfl
    | true => exact absurd (Nat.eq_of_beq_eq_true hb) h
  simp [apartIds, allN_eq, memN, e]
theorem b58k (k : Int) : (buildC P 41).f [(0, int k)] = some (agg (chC ⟨k, 0, 0, slz 0, 0⟩)) := by kernel_rfl
theorem eq58 (c c' : Ch) (b : Bool) : (binC P .eql 41 b).f (agg (chC c)) (agg (chC c')) = some (.bool (eqCells (chC c) (chC c'))) := bin_eql_f f58 (by kernel_rfl) (by kernel_rfl) (fitC c) (fitC c')
theorem table_right_spec (hO : St H Γ) (hk : ∀ H', St H' Γ → K (.bool (decide (CRight c))) H') : wCall P n_table_right [agg (chC c)] H K := by
  apply table_right_ok; unfold table_right
  refine new_at hO ?_
  intro p H hO
  repeat (first | refine opP_i (by first | exact qa | exact qs | exact nilCheck_ptr | exact offPtr_ptr | exact bin_eql | exact bin_neq | exact bin_lss | exact bin_gtr | exact bin_leq | exact bin_geq | exact un_not | exact pick_true | exact pick_false | exact qy | exact qn | exact qi | exact qj) ?_ | refine opW_i (by first | exact lenSl_sl | exact min_w | exact max_w) ?_ | refine wy ?_ | refine wn ?_ | refine wIf_t rfl ?_ | refine wIf_f rfl ?_ | refine cond_yes rfl ?_ | refine cond_no rfl ?_ | refine ld hO 0 rfl rfl ?_ | refine ld hO 1 rfl rfl ?_ | refine ld hO 2 rfl rfl ?_ | refine ld hO 3 rfl rfl ?_ | refine ld hO 4 rfl rfl ?_ | refine ld hO 5 rfl rfl ?_)
  refine opP_i (b58k _) ?_
  rw [zc58]
  refine new_at hO ?_
  intro q H hO
  rw [List.append_assoc] at hO
  refine storeAll_at hO (Γ.length + 1) (at_r rfl) rfl rfl rfl ?_
  intro H hO
  have hO : St H (Γ ++ [(p, ⟨chC c, true⟩), (q, ⟨chC ⟨c.kind, 0, 0, slz 0, 0⟩, true⟩)]) := hO.set_r
  refine join_with (fun l' H' => ∃ (d : Ch) (ok : Bool), l' = [ptr p 0, ptr q 0, .bool ok] ∧ St H' (Γ ++ [(p, ⟨chC c, true⟩), (q, ⟨chC d, true⟩)]) ∧ (ok && decide (d.kind = c.kind ∧ d.slot = c.slot ∧ d.n = c.n ∧ SEq d.to c.to ∧ d.ver = c.ver)) = decide (CRight c)) ?_ ?_
  · repeat (first | refine opP_i (by first | exact qa | exact qs | exact nilCheck_ptr | exact offPtr_ptr | exact bin_eql | exact bin_neq | exact bin_lss | exact bin_gtr | exact bin_leq | exact bin_geq | exact un_not | exact pick_true | exact pick_false | exact qy | exact qn | exact qi | exact qj) ?_ | refine opW_i (by first | exact lenSl_sl | exact min_w | exact max_w) ?_ | refine wy ?_ | refine wn ?_ | refine wIf_t rfl ?_ | refine wIf_f rfl ?_ | refine cond_yes rfl ?_ | refine cond_no rfl ?_ | refine ld hO 0 rfl rfl ?_ | refine ld hO 1 rfl rfl ?_ | refine ld hO 2 rfl rfl ?_ | refine ld hO 3 rfl rfl ?_ | refine ld hO 4 rfl rfl ?_ | refine ld hO 5 rfl rfl ?_)
    by_cases h1 : c.kind = 1
    · repeat (first | refine opP_i (by first | exact qa | exact qs | exact nilCheck_ptr | exact offPtr_ptr | exact bin_eql | exact bin_neq | exact bin_lss | exact bin_gtr | exact bin_leq | exact bin_geq | exact un_not | exact pick_true | exact pick_false | exact qy | exact qn | exact qi | exact qj) ?_ | refine opW_i (by first | exact lenSl_sl | exact min_w | exact max_w) ?_ | refine wy ?_ | refine wn ?_ | refine wIf_t rfl ?_ | refine wIf_f rfl ?_ | refine cond_yes rfl ?_ | refine cond_no rfl ?_ | refine ld hO 0 rfl rfl ?_ | refine ld hO 1 rfl rfl ?_ | refine ld hO 2 rfl rfl ?_ | refine ld hO 3 rfl rfl ?_ | refine ld hO 4 rfl rfl ?_ | refine ld hO 5 rfl rfl ?_)
      refine loadAgg_at hO (Γ.length + 0) (at_r rfl) (show _ = slC c.to from rfl) rfl (by omega) ?_
      repeat (first | refine opP_i (by first | exact qa | exact qs | exact nilCheck_ptr | exact offPtr_ptr | exact bin_eql | exact bin_neq | exact bin_lss | exact bin_gtr | exact bin_leq | exact bin_geq | exact un_not | exact pick_true | exact pick_false | exact qy | exact qn | exact qi | exact qj) ?_ | refine opW_i (by first | exact lenSl_sl | exact min_w | exact max_w) ?_ | refine wy ?_ | refine wn ?_ | refine wIf_t rfl ?_ | refine wIf_f rfl ?_ | refine cond_yes rfl ?_ | refine cond_no rfl ?_ | refine ld hO 0 rfl rfl ?_ | refine ld hO 1 rfl rfl ?_ | refine ld hO 2 rfl rfl ?_ | refine ld hO 3 rfl rfl ?_ | refine ld hO 4 rfl rfl ?_ | refine ld hO 5 rfl rfl ?_)
      have hne := St.ne hO (i := Γ.length + 0) (j := Γ.length + 1) (at_r rfl) (at_r rfl) (by omega)
      refine store1_at hO (Γ.length + 1) (at_r rfl) rfl (show 1 < 40 by omega) (show _ = chC ⟨c.kind, c.slot, 0, slz 0, 0⟩ from rfl) ?_
      intro H hO
      have hO := hO.set_r
      refine ⟨apart2 hne, ?_⟩
      repeat (first | refine opP_i (by first | exact qa | exact qs | exact nilCheck_ptr | exact offPtr_ptr | exact bin_eql | exact bin_neq | exact bin_lss | exact bin_gtr | exact bin_leq | exact bin_geq | exact un_not | exact pick_true | exact pick_false | exact qy | exact qn | exact qi | exact qj) ?_ | refine opW_i (by first | exact lenSl_sl | exact min_w | exact max_w) ?_ | refine wy ?_ | refine wn ?_ | refine wIf_t rfl ?_ | refine wIf_f rfl ?_ | refine cond_yes rfl ?_ | refine cond_no rfl ?_ | refine ld hO 0 rfl rfl ?_ | refine ld hO 1 rfl rfl ?_ | refine ld hO 2 rfl rfl ?_ | refine ld hO 3 rfl rfl ?_ | refine ld hO 4 rfl rfl ?_ | refine ld hO 5 rfl rfl ?_)
      refine store_at hO (Γ.length + 1) (at_r rfl) rfl (show 3 + 36 ≤ 40 by omega) rfl ?_
      intro H hO
      have hO : St H (Γ ++ [(p, ⟨chC c, true⟩), (q, ⟨chC ⟨c.kind, c.slot, 0, c.to, 0⟩, true⟩)]) := hO.set_r
      repeat (first | refine opP_i (by first | exact qa | exact qs | exact nilCheck_ptr | exact offPtr_ptr | exact bin_eql | exact bin_neq | exact bin_lss | exact bin_gtr | exact bin_leq | exact bin_geq | exact un_not | exact pick_true | exact pick_false | exact qy | exact qn | exact qi | exact qj) ?_ | refine opW_i (by first | exact lenSl_sl | exact min_w | exact max_w) ?_ | refine wy ?_ | refine wn ?_ | refine wIf_t rfl ?_ | refine wIf_f rfl ?_ | refine cond_yes rfl ?_ | refine cond_no rfl ?_ | refine ld hO 0 rfl rfl ?_ | refine ld hO 1 rfl rfl ?_ | refine ld hO 2 rfl rfl ?_ | refine ld hO 3 rfl rfl ?_ | refine ld hO 4 rfl rfl ?_ | refine ld hO 5 rfl rfl ?_)
      refine table_index_spec ?_
      have hd : CRight c ↔ (Ix c.slot ∧ SRight c.to) ∧ 0 = c.n ∧ 0 = c.ver := by
        unfold CRight; constructor
        · rintro (⟨_, h, h2, h3⟩ | ⟨h, _⟩ | ⟨h, _⟩ | ⟨h, _⟩)
          · exact ⟨h, h2.symm, h3.symm⟩
          · omega
          · omega
          · omega
        · exact fun h => .inl ⟨h1, h.1, h.2.1.symm, h.2.2.symm⟩
      have he : decide (c.kind = c.kind ∧ c.slot = c.slot ∧ 0 = c.n ∧ SEq c.to c.to ∧ 0 = c.ver) = decide (0 = c.n ∧ 0 = c.ver) := decide_eq_decide.2 ⟨fun h => ⟨h.2.2.1, h.2.2.2.2⟩, fun h => ⟨rfl, rfl, h.1, SEq.rfl' _, h.2⟩⟩
      by_cases h2 : Ix c.slot
      · rw [decide_eq_true h2]
        repeat (first | refine opP_i (by first | exact qa | exact qs | exact nilCheck_ptr | exact offPtr_ptr | exact bin_eql | exact bin_neq | exact bin_lss | exact bin_gtr | exact bin_leq | exact bin_geq | exact un_not | exact pick_true | exact pick_false | exact qy | exact qn | exact qi | exact qj) ?_ | refine opW_i (by first | exact lenSl_sl | exact min_w | exact max_w) ?_ | refine wy ?_ | refine wn ?_ | refine wIf_t rfl ?_ | refine wIf_f rfl ?_ | refine cond_yes rfl ?_ | refine cond_no rfl ?_ | refine ld hO 0 rfl rfl ?_ | refine ld hO 1 rfl rfl ?_ | refine ld hO 2 rfl rfl ?_ | refine ld hO 3 rfl rfl ?_ | refine ld hO 4 rfl rfl ?_ | refine ld hO 5 rfl rfl ?_)
        refine loadAgg_at hO (Γ.length + 0) (at_r rfl) (show _ = slC c.to from rfl) rfl (by omega) ?_
        refine slot_Right_spec hO ?_
        intro H hO
        repeat (first | refine opP_i (by first | exact qa | exact qs | exact nilCheck_ptr | exact offPtr_ptr | exact bin_eql | exact bin_neq | exact bin_lss | exact bin_gtr | exact bin_leq | exact bin_geq | exact un_not | exact pick_true | exact pick_false | exact qy | exact qn | exact qi | exact qj) ?_ | refine opW_i (by first | exact lenSl_sl | exact min_w | exact max_w) ?_ | refine wy ?_ | refine wn ?_ | refine wIf_t rfl ?_ | refine wIf_f rfl ?_ | refine cond_yes rfl ?_ | refine cond_no rfl ?_ | refine ld hO 0 rfl rfl ?_ | refine ld hO 1 rfl rfl ?_ | refine ld hO 2 rfl rfl ?_ | refine ld hO 3 rfl rfl ?_ | refine ld hO 4 rfl rfl ?_ | refine ld hO 5 rfl rfl ?_)
        refine ⟨⟨c.kind, c.slot, 0, c.to, 0⟩, decide (SRight c.to), rfl, hO, ?_⟩
        rw [Bool.eq_iff_iff, decide_eq_true_iff, Bool.and_eq_true, decide_eq_true_iff, decide_eq_true_iff, hd]
        exact ⟨fun h => ⟨⟨h2, h.1⟩, h.2.2.2.1, h.2.2.2.2.2⟩, fun h => ⟨h.1.2, rfl, rfl, h.2.1, SEq.rfl' _, h.2.2⟩⟩
      · rw [decide_eq_false h2]
        repeat (first | refine opP_i (by first | exact qa | exact qs | exact nilCheck_ptr | exact offPtr_ptr | exact bin_eql | exact bin_neq | exact bin_lss | exact bin_gtr | exact bin_leq | exact bin_geq | exact un_not | exact pick_true | exact pick_false | exact qy | exact qn | exact qi | exact qj) ?_ | refine opW_i (by first | exact lenSl_sl | exact min_w | exact max_w) ?_ | refine wy ?_ | refine wn ?_ | refine wIf_t rfl ?_ | refine wIf_f rfl ?_ | refine cond_yes rfl ?_ | refine cond_no rfl ?_ | refine ld hO 0 rfl rfl ?_ | refine ld hO 1 rfl rfl ?_ | refine ld hO 2 rfl rfl ?_ | refine ld hO 3 rfl rfl ?_ | refine ld hO 4 rfl rfl ?_ | refine ld hO 5 rfl rfl ?_)
        refine ⟨⟨c.kind, c.slot, 0, c.to, 0⟩, false, rfl, hO, ?_⟩
        rw [decide_eq_false (show ¬ CRight c by rw [hd]; exact fun h => h2 h.1.1)]; rfl
    · repeat (first | refine opP_i (by first | exact qa | exact qs | exact nilCheck_ptr | exact offPtr_ptr | exact bin_eql | exact bin_neq | exact bin_lss | exact bin_gtr | exact bin_leq | exact bin_geq | exact un_not | exact pick_true | exact pick_false | exact qy | exact qn | exact qi | exact qj) ?_ | refine opW_i (by first | exact lenSl_sl | exact min_w | exact max_w) ?_ | refine wy ?_ | refine wn ?_ | refine wIf_t rfl ?_ | refine wIf_f rfl ?_ | refine cond_yes rfl ?_ | refine cond_no rfl ?_ | refine ld hO 0 rfl rfl ?_ | refine ld hO 1 rfl rfl ?_ | refine ld hO 2 rfl rfl ?_ | refine ld hO 3 rfl rfl ?_ | refine ld hO 4 rfl rfl ?_ | refine ld hO 5 rfl rfl ?_)
      by_cases h2 : c.kind = 2
      · repeat (first | refine opP_i (by first | exact qa | exact qs | exact nilCheck_ptr | exact offPtr_ptr | exact bin_eql | exact bin_neq | exact bin_lss | exact bin_gtr | exact bin_leq | exact bin_geq | exact un_not | exact pick_true | exact pick_false | exact qy | exact qn | exact qi | exact qj) ?_ | refine opW_i (by first | exact lenSl_sl | exact min_w | exact max_w) ?_ | refine wy ?_ | refine wn ?_ | refine wIf_t rfl ?_ | refine wIf_f rfl ?_ | refine cond_yes rfl ?_ | refine cond_no rfl ?_ | refine ld hO 0 rfl rfl ?_ | refine ld hO 1 rfl rfl ?_ | refine ld hO 2 rfl rfl ?_ | refine ld hO 3 rfl rfl ?_ | refine ld hO 4 rfl rfl ?_ | refine ld hO 5 rfl rfl ?_)
        refine store1_at hO (Γ.length + 1) (at_r rfl) rfl (show 2 < 40 by omega) (show _ = chC ⟨c.kind, 0, c.n, slz 0, 0⟩ from rfl) ?_
        intro H hO
        have hO := hO.set_r
        repeat (first | refine opP_i (by first | exact qa | exact qs | exact nilCheck_ptr | exact offPtr_ptr | exact bin_eql | exact bin_neq | exact bin_lss | exact bin_gtr | exact bin_leq | exact bin_geq | exact un_not | exact pick_true | exact pick_false | exact qy | exact qn | exact qi | exact qj) ?_ | refine opW_i (by first | exact lenSl_sl | exact min_w | exact max_w) ?_ | refine wy ?_ | refine wn ?_ | refine wIf_t rfl ?_ | refine wIf_f rfl ?_ | refine cond_yes rfl ?_ | refine cond_no rfl ?_ | refine ld hO 0 rfl rfl ?_ | refine ld hO 1 rfl rfl ?_ | refine ld hO 2 rfl rfl ?_ | refine ld hO 3 rfl rfl ?_ | refine ld hO 4 rfl rfl ?_ | refine ld hO 5 rfl rfl ?_)
        refine table_index_spec ?_
        refine ⟨⟨c.kind, 0, c.n, slz 0, 0⟩, decide (Ix c.n), rfl, hO, ?_⟩
        rw [Bool.eq_iff_iff, decide_eq_true_iff, Bool.and_eq_true, decide_eq_true_iff, decide_eq_true_iff]
        unfold CRight SZ
        constructor
        · rintro ⟨hi, _, h3, _, h4, h5⟩
          exact .inr (.inl ⟨h2, hi, h3.symm, h4, h5.symm⟩)
        · rintro (⟨h, _⟩ | ⟨_, hi, h3, h4, h5⟩ | ⟨h, _⟩ | ⟨h, _⟩)
          · omega
          · exact ⟨hi, rfl, h3.symm, rfl, h4, h5.symm⟩
          · omega
          · omega
      · repeat (first | refine opP_i (by first | exact qa | exact qs | exact nilCheck_ptr | exact offPtr_ptr | exact bin_eql | exact bin_neq | exact bin_lss | exact bin_gtr | exact bin_leq | exact bin_geq | exact un_not | exact pick_true | exact pick_false | exact qy | exact qn | exact qi | exact qj) ?_ | refine opW_i (by first | exact lenSl_sl | exact min_w | exact max_w) ?_ | refine wy ?_ | refine wn ?_ | refine wIf_t rfl ?_ | refine wIf_f rfl ?_ | refine cond_yes rfl ?_ | refine cond_no rfl ?_ | refine ld hO 0 rfl rfl ?_ | refine ld hO 1 rfl rfl ?_ | refine ld hO 2 rfl rfl ?_ | refine ld hO 3 rfl rfl ?_ | refine ld hO 4 rfl rfl ?_ | refine ld hO 5 rfl rfl ?_)
        by_cases h3 : c.kind = 3
        · repeat (first | refine opP_i (by first | exact qa | exact qs | exact nilCheck_ptr | exact offPtr_ptr | exact bin_eql | exact bin_neq | exact bin_lss | exact bin_gtr | exact bin_leq | exact bin_geq | exact un_not | exact pick_true | exact pick_false | exact qy | exact qn | exact qi | exact qj) ?_ | refine opW_i (by first | exact lenSl_sl | exact min_w | exact max_w) ?_ | refine wy ?_ | refine wn ?_ | refine wIf_t rfl ?_ | refine wIf_f rfl ?_ | refine cond_yes rfl ?_ | refine cond_no rfl ?_ | refine ld hO 0 rfl rfl ?_ | refine ld hO 1 rfl rfl ?_ | refine ld hO 2 rfl rfl ?_ | refine ld hO 3 rfl rfl ?_ | refine ld hO 4 rfl rfl ?_ | refine ld hO 5 rfl rfl ?_)
          refine store1_at hO (Γ.length + 1) (at_r rfl) rfl (show 2 < 40 by omega) (show _ = chC ⟨c.kind, 0, c.n, slz 0, 0⟩ from rfl) ?_
          intro H hO
          have hO := hO.set_r
          repeat (first | refine opP_i (by first | exact qa | exact qs | exact nilCheck_ptr | exact offPtr_ptr | exact bin_eql | exact bin_neq | exact bin_lss | exact bin_gtr | exact bin_leq | exact bin_geq | exact un_not | exact pick_true | exact pick_false | exact qy | exact qn | exact qi | exact qj) ?_ | refine opW_i (by first | exact lenSl_sl | exact min_w | exact max_w) ?_ | refine wy ?_ | refine wn ?_ | refine wIf_t rfl ?_ | refine wIf_f rfl ?_ | refine cond_yes rfl ?_ | refine cond_no rfl ?_ | refine ld hO 0 rfl rfl ?_ | refine ld hO 1 rfl rfl ?_ | refine ld hO 2 rfl rfl ?_ | refine ld hO 3 rfl rfl ?_ | refine ld hO 4 rfl rfl ?_ | refine ld hO 5 rfl rfl ?_)
          have fin : ∀ ok : Bool, ok = decide (c.n = -1 ∨ Ix c.n) → (ok && decide (c.kind = c.kind ∧ 0 = c.slot ∧ c.n = c.n ∧ SEq (slz 0) c.to ∧ 0 = c.ver)) = decide (CRight c) := by
            rintro ok rfl
            rw [Bool.eq_iff_iff, decide_eq_true_iff, Bool.and_eq_true, decide_eq_true_iff, decide_eq_true_iff]
            unfold CRight SZ
            constructor
            · rintro ⟨hi, _, h3', _, h4, h5⟩
              exact .inr (.inr (.inl ⟨h3, hi, h3'.symm, h4, h5.symm⟩))
            · rintro (⟨h, _⟩ | ⟨h, _⟩ | ⟨_, hi, h3', h4, h5⟩ | ⟨h, _⟩)
              · omega
              · omega
              · exact ⟨hi, rfl, h3'.symm, rfl, h4, h5.symm⟩
              · omega
          by_cases h4 : c.n = -1
          · repeat (first | refine opP_i (by first | exact qa | exact qs | exact nilCheck_ptr | exact offPtr_ptr | exact bin_eql | exact bin_neq | exact bin_lss | exact bin_gtr | exact bin_leq | exact bin_geq | exact un_not | exact pick_true | exact pick_false | exact qy | exact qn | exact qi | exact qj) ?_ | refine opW_i (by first | exact lenSl_sl | exact min_w | exact max_w) ?_ | refine wy ?_ | refine wn ?_ | refine wIf_t rfl ?_ | refine wIf_f rfl ?_ | refine cond_yes rfl ?_ | refine cond_no rfl ?_ | refine ld hO 0 rfl rfl ?_ | refine ld hO 1 rfl rfl ?_ | refine ld hO 2 rfl rfl ?_ | refine ld hO 3 rfl rfl ?_ | refine ld hO 4 rfl rfl ?_ | refine ld hO 5 rfl rfl ?_)
            refine ⟨⟨c.kind, 0, c.n, slz 0, 0⟩, true, rfl, hO, fin _ (decide_eq_true (.inl h4)).symm⟩
          · repeat (first | refine opP_i (by first | exact qa | exact qs | exact nilCheck_ptr | exact offPtr_ptr | exact bin_eql | exact bin_neq | exact bin_lss | exact bin_gtr | exact bin_leq | exact bin_geq | exact un_not | exact pick_true | exact pick_false | exact qy | exact qn | exact qi | exact qj) ?_ | refine opW_i (by first | exact lenSl_sl | exact min_w | exact max_w) ?_ | refine wy ?_ | refine wn ?_ | refine wIf_t rfl ?_ | refine wIf_f rfl ?_ | refine cond_yes rfl ?_ | refine cond_no rfl ?_ | refine ld hO 0 rfl rfl ?_ | refine ld hO 1 rfl rfl ?_ | refine ld hO 2 rfl rfl ?_ | refine ld hO 3 rfl rfl ?_ | refine ld hO 4 rfl rfl ?_ | refine ld hO 5 rfl rfl ?_)
            refine table_index_spec ?_
            repeat (first | refine opP_i (by first | exact qa | exact qs | exact nilCheck_ptr | exact offPtr_ptr | exact bin_eql | exact bin_neq | exact bin_lss | exact bin_gtr | exact bin_leq | exact bin_geq | exact un_not | exact pick_true | exact pick_false | exact qy | exact qn | exact qi | exact qj) ?_ | refine opW_i (by first | exact lenSl_sl | exact min_w | exact max_w) ?_ | refine wy ?_ | refine wn ?_ | refine wIf_t rfl ?_ | refine wIf_f rfl ?_ | refine cond_yes rfl ?_ | refine cond_no rfl ?_ | refine ld hO 0 rfl rfl ?_ | refine ld hO 1 rfl rfl ?_ | refine ld hO 2 rfl rfl ?_ | refine ld hO 3 rfl rfl ?_ | refine ld hO 4 rfl rfl ?_ | refine ld hO 5 rfl rfl ?_)
            refine ⟨⟨c.kind, 0, c.n, slz 0, 0⟩, decide (Ix c.n), rfl, hO, fin _ (decide_eq_decide.2 ⟨.inr, fun h => h.resolve_left h4⟩)⟩
        · repeat (first | refine opP_i (by first | exact qa | exact qs | exact nilCheck_ptr | exact offPtr_ptr | exact bin_eql | exact bin_neq | exact bin_lss | exact bin_gtr | exact bin_leq | exact bin_geq | exact un_not | exact pick_true | exact pick_false | exact qy | exact qn | exact qi | exact qj) ?_ | refine opW_i (by first | exact lenSl_sl | exact min_w | exact max_w) ?_ | refine wy ?_ | refine wn ?_ | refine wIf_t rfl ?_ | refine wIf_f rfl ?_ | refine cond_yes rfl ?_ | refine cond_no rfl ?_ | refine ld hO 0 rfl rfl ?_ | refine ld hO 1 rfl rfl ?_ | refine ld hO 2 rfl rfl ?_ | refine ld hO 3 rfl rfl ?_ | refine ld hO 4 rfl rfl ?_ | refine ld hO 5 rfl rfl ?_)
          by_cases h4 : c.kind = 4
          · repeat (first | refine opP_i (by first | exact qa | exact qs | exact nilCheck_ptr | exact offPtr_ptr | exact bin_eql | exact bin_neq | exact bin_lss | exact bin_gtr | exact bin_leq | exact bin_geq | exact un_not | exact pick_true | exact pick_false | exact qy | exact qn | exact qi | exact qj) ?_ | refine opW_i (by first | exact lenSl_sl | exact min_w | exact max_w) ?_ | refine wy ?_ | refine wn ?_ | refine wIf_t rfl ?_ | refine wIf_f rfl ?_ | refine cond_yes rfl ?_ | refine cond_no rfl ?_ | refine ld hO 0 rfl rfl ?_ | refine ld hO 1 rfl rfl ?_ | refine ld hO 2 rfl rfl ?_ | refine ld hO 3 rfl rfl ?_ | refine ld hO 4 rfl rfl ?_ | refine ld hO 5 rfl rfl ?_)
            refine store1_at hO (Γ.length + 1) (at_r rfl) rfl (show 39 < 40 by omega) (show _ = chC ⟨c.kind, 0, 0, slz 0, c.ver⟩ from rfl) ?_
            intro H hO
            have hO := hO.set_r
            repeat (first | refine opP_i (by first | exact qa | exact qs | exact nilCheck_ptr | exact offPtr_ptr | exact bin_eql | exact bin_neq | exact bin_lss | exact bin_gtr | exact bin_leq | exact bin_geq | exact un_not | exact pick_true | exact pick_false | exact qy | exact qn | exact qi | exact qj) ?_ | refine opW_i (by first | exact lenSl_sl | exact min_w | exact max_w) ?_ | refine wy ?_ | refine wn ?_ | refine wIf_t rfl ?_ | refine wIf_f rfl ?_ | refine cond_yes rfl ?_ | refine cond_no rfl ?_ | refine ld hO 0 rfl rfl ?_ | refine ld hO 1 rfl rfl ?_ | refine ld hO 2 rfl rfl ?_ | refine ld hO 3 rfl rfl ?_ | refine ld hO 4 rfl rfl ?_ | refine ld hO 5 rfl rfl ?_)
            refine ⟨⟨c.kind, 0, 0, slz 0, c.ver⟩, decide (c.ver ≤ 281474976710656), rfl, hO, ?_⟩
            rw [Bool.eq_iff_iff, decide_eq_true_iff, Bool.and_eq_true, decide_eq_true_iff, decide_eq_true_iff]
            unfold CRight SZ
            constructor
            · rintro ⟨hi, _, h5, h6, h7, _⟩
              exact .inr (.inr (.inr ⟨h4, hi, h5.symm, h6.symm, h7⟩))
            · rintro (⟨h, _⟩ | ⟨h, _⟩ | ⟨h, _⟩ | ⟨_, hi, h5, h6, h7⟩)
              · omega
              · omega
              · omega
              · exact ⟨hi, rfl, h5.symm, h6.symm, h7, rfl⟩
          · repeat (first | refine opP_i (by first | exact qa | exact qs | exact nilCheck_ptr | exact offPtr_ptr | exact bin_eql | exact bin_neq | exact bin_lss | exact bin_gtr | exact bin_leq | exact bin_geq | exact un_not | exact pick_true | exact pick_false | exact qy | exact qn | exact qi | exact qj) ?_ | refine opW_i (by first | exact lenSl_sl | exact min_w | exact max_w) ?_ | refine wy ?_ | refine wn ?_ | refine wIf_t rfl ?_ | refine wIf_f rfl ?_ | refine cond_yes rfl ?_ | refine cond_no rfl ?_ | refine ld hO 0 rfl rfl ?_ | refine ld hO 1 rfl rfl ?_ | refine ld hO 2 rfl rfl ?_ | refine ld hO 3 rfl rfl ?_ | refine ld hO 4 rfl rfl ?_ | refine ld hO 5 rfl rfl ?_)
            refine ⟨⟨c.kind, 0, 0, slz 0, 0⟩, false, rfl, hO, ?_⟩
            rw [decide_eq_false (show ¬ CRight c by unfold CRight; omega)]; rfl
  clear hO
  rintro l' H ⟨d, ok, rfl, hO, hd⟩
  try simp only [nth_zero, nth_succ]
  cases ok with
  | true =>
    rw [Bool.true_and] at hd
    refine wIf_t rfl ?_
    refine loadAll_at hO (Γ.length + 1) (at_r rfl) rfl (by omega) ?_
    refine loadAll_at hO (Γ.length + 0) (at_r rfl) rfl (by omega) ?_
    refine opP_i (eq58 _ _ _) ?_
    rw [eq_ch, hd]
    repeat (first | refine opP_i (by first | exact qa | exact qs | exact nilCheck_ptr | exact offPtr_ptr | exact bin_eql | exact bin_neq | exact bin_lss | exact bin_gtr | exact bin_leq | exact bin_geq | exact un_not | exact pick_true | exact pick_false | exact qy | exact qn | exact qi | exact qj) ?_ | refine opW_i (by first | exact lenSl_sl | exact min_w | exact max_w) ?_ | refine wy ?_ | refine wn ?_ | refine wIf_t rfl ?_ | refine wIf_f rfl ?_ | refine cond_yes rfl ?_ | refine cond_no rfl ?_)
    exact hk _ hO.left
  | false =>
    refine wIf_f rfl ?_
    rw [← hd] at hk
    repeat (first | refine opP_i (by first | exact qa | exact qs | exact nilCheck_ptr | exact offPtr_ptr | exact bin_eql | exact bin_neq | exact bin_lss | exact bin_gtr | exact bin_leq | exact bin_geq | exact un_not | exact pick_true | exact pick_false | exact qy | exact qn | exact qi | exact qj) ?_ | refine opW_i (by first | exact lenSl_sl | exact min_w | exact max_w) ?_ | refine wy ?_ | refine wn ?_ | refine wIf_t rfl ?_ | refine wIf_f rfl ?_ | refine cond_yes rfl ?_ | refine cond_no rfl ?_)
    exact hk _ hO.left
end
variable {H : Heap} {Γ : List (Nat × Blk)} {K : Value → Heap → Prop}
section
variable {t : Tb} {l : List Ch}
def TOk (l : List Ch) : Prop := l.length ≤ 8 ∧ ∀ c ∈ l, CRight c
instance (l : List Ch) : Decidable (TOk l) := by unfold TOk; infer_instance
theorem take_mem {y : Nat} (h : y < l.length) {p : Ch → Prop} (ha : ∀ c ∈ l.take y, p c) (hb : p l[y]) : ∀ c ∈ l.take (y + 1), p c := by
  intro c hc
  rw [List.take_succ_eq_append_getElem h] at hc
  rcases List.mem_append.1 hc with hc | hc
  · exact ha c hc
  · have : c = l[y] := by simpa using hc
    subst this; exact hb
theorem table_transaction_spec {v : Value} (hO : St H Γ) (hv : RdC Γ v l) (hl : l.length ≤ 1000000) (hk : ∀ H', St H' Γ → K (.bool (decide (TOk l))) H') : wCall P n_table_transaction [v] H K := by
  apply table_transaction_ok; unfold table_transaction
  refine opW_i (by rw [hv.1]) ?_
  repeat (first | refine opP_i (by first | exact qa | exact qs | exact nilCheck_ptr | exact offPtr_ptr | exact bin_eql | exact bin_neq | exact bin_lss | exact bin_gtr | exact bin_leq | exact bin_geq | exact un_not | exact pick_true | exact pick_false | exact qy | exact qn | exact qi | exact qj) ?_ | refine opW_i (by first | exact lenSl_sl | exact min_w | exact max_w) ?_ | refine wy ?_ | refine wn ?_ | refine wIf_t rfl ?_ | refine wIf_f rfl ?_ | refine cond_yes rfl ?_ | refine cond_no rfl ?_)
  refine wIf_dec (fun h => ?_) (fun h => ?_)
  · rw [decide_eq_false (show ¬ TOk l from fun h' => by have := h'.1; omega)] at hk
    exact hk _ hO
  refine opW_i (by rw [hv.1]) ?_
  refine table_transaction_L0_ind (fun k l' H' => ∃ y : Nat, y ≤ l.length ∧ k = l.length - y ∧ l' = [.bool false, v, int l.length, int y] ∧ St H' Γ ∧ ∀ c ∈ l.take y, CRight c) _ _ ?_ l.length _ _ ⟨0, by omega, by omega, rfl, hO, by simp⟩
  rintro k l' H' ⟨y, hy, rfl, rfl, hO, hc⟩
  unfold table_transaction_L0
  try simp only [nth_zero, nth_succ]
  repeat (first | refine opP_i (by first | exact qa | exact qs | exact nilCheck_ptr | exact offPtr_ptr | exact bin_eql | exact bin_neq | exact bin_lss | exact bin_gtr | exact bin_leq | exact bin_geq | exact un_not | exact pick_true | exact pick_false | exact qy | exact qn | exact qi | exact qj) ?_ | refine opW_i (by first | exact lenSl_sl | exact min_w | exact max_w) ?_ | refine wy ?_ | refine wn ?_ | refine wIf_t rfl ?_ | refine wIf_f rfl ?_ | refine cond_yes rfl ?_ | refine cond_no rfl ?_)
  refine wIf_dec (fun h2 => ?_) (fun h2 => ?_)
  · rcases hv.2 with rfl | ⟨p, cp, j, rfl, w, hj⟩
    · simp at h2; omega
    have hyl : y < l.length := by omega
    have e : 0 + ((y : Nat) : Int).toNat * 40 = y * 40 := by rw [Int.toNat_natCast]; omega
    repeat (first | refine opP_i (by first | exact qa | exact qs | exact nilCheck_ptr | exact offPtr_ptr | exact bin_eql | exact bin_neq | exact bin_lss | exact bin_gtr | exact bin_leq | exact bin_geq | exact un_not | exact pick_true | exact pick_false | exact qy | exact qn | exact qi | exact qj) ?_ | refine opW_i (by first | exact lenSl_sl | exact min_w | exact max_w) ?_ | refine wy ?_ | refine wn ?_ | refine wIf_t rfl ?_ | refine wIf_f rfl ?_ | refine cond_yes rfl ?_ | refine cond_no rfl ?_)
    refine loadAgg_at hO j hj (show _ = chC l[y] from ?_) rfl (by omega) ?_
    · rw [e]; exact chs_at l y hyl
    rw [zc58]
    refine new_at hO ?_
    intro q H hO
    refine storeAll_at hO (Γ.length + 0) (at_r rfl) rfl rfl rfl ?_
    intro H hO
    have hO := hO.set_r
    refine loadAll_at hO (Γ.length + 0) (at_r rfl) rfl (by omega) ?_
    refine table_right_spec hO ?_
    intro H hO
    by_cases hr : CRight l[y]
    · rw [decide_eq_true hr]
      repeat (first | refine opP_i (by first | exact qa | exact qs | exact nilCheck_ptr | exact offPtr_ptr | exact bin_eql | exact bin_neq | exact bin_lss | exact bin_gtr | exact bin_leq | exact bin_geq | exact un_not | exact pick_true | exact pick_false | exact qy | exact qn | exact qi | exact qj) ?_ | refine opW_i (by first | exact lenSl_sl | exact min_w | exact max_w) ?_ | refine wy ?_ | refine wn ?_ | refine wIf_t rfl ?_ | refine wIf_f rfl ?_ | refine cond_yes rfl ?_ | refine cond_no rfl ?_)
      exact ⟨_, by omega, y + 1, by omega, rfl, rfl, hO.left, take_mem hyl hc hr⟩
    · rw [decide_eq_false hr]
      repeat (first | refine opP_i (by first | exact qa | exact qs | exact nilCheck_ptr | exact offPtr_ptr | exact bin_eql | exact bin_neq | exact bin_lss | exact bin_gtr | exact bin_leq | exact bin_geq | exact un_not | exact pick_true | exact pick_false | exact qy | exact qn | exact qi | exact qj) ?_ | refine opW_i (by first | exact lenSl_sl | exact min_w | exact max_w) ?_ | refine wy ?_ | refine wn ?_ | refine wIf_t rfl ?_ | refine wIf_f rfl ?_ | refine cond_yes rfl ?_ | refine cond_no rfl ?_)
      try simp only [nth_zero, nth_succ]
      rw [decide_eq_false (show ¬ TOk l from fun h => hr (h.2 _ (List.getElem_mem hyl)))] at hk
      exact hk _ hO.left
  · have e : y = l.length := by omega
    subst e
    rw [List.take_of_length_le (Nat.le_refl _)] at hc
    repeat (first | refine opP_i (by first | exact qa | exact qs | exact nilCheck_ptr | exact offPtr_ptr | exact bin_eql | exact bin_neq | exact bin_lss | exact bin_gtr | exact bin_leq | exact bin_geq | exact un_not | exact pick_true | exact pick_false | exact qy | exact qn | exact qi | exact qj) ?_ | refine opW_i (by first | exact lenSl_sl | exact min_w | exact max_w) ?_ | refine wy ?_ | refine wn ?_ | refine wIf_t rfl ?_ | refine wIf_f rfl ?_ | refine cond_yes rfl ?_ | refine cond_no rfl ?_)
    rw [decide_eq_true (show TOk l from ⟨by omega, hc⟩)] at hk
    exact hk _ hO
/-! what changes make of a table -/
def Tb.put (t : Tb) (i : Int) (s : Sl) : Tb := if i = 0 then { t with a := s } else { t with b := s }
def ap1 (t : Tb) (c : Ch) : Option Tb :=
  if c.kind = 1 then some (t.put c.slot c.to) else if c.kind = 2 then some { t with act := c.n } else if c.kind = 3 then some { t with boo := c.n }
  else if c.ver < t.flo then none else some { t with flo := c.ver }
def apL : Tb → List Ch → Option Tb
  | t, [] => some t
  | t, c :: l => match ap1 t c with
    | some t' => apL t' l
    | none => none
def tbz : Tb := ⟨slz 0, slz 0, 0, 0, 0⟩
def tApply (t : Tb) (l : List Ch) : Tb × Int := if TRight t ∧ TOk l then (match apL t l with | some t' => (t', 0) | none => (tbz, 111)) else (tbz, 111)
theorem zc29 : zc P 37 = tbC tbz := by kernel_rfl
theorem b29 : (buildC P 37).f [] = some (agg (tbC tbz)) := by kernel_rfl
theorem store_slot {p o : Nat} {x : Int} {s : Sl} {K : Value → Heap → Prop} (hO : St H Γ) (i : Nat) (hi : Γ[i]? = some (p, ⟨tbC t, true⟩)) (hx : Ix x) (ho : o = x.toNat * 36) (hk : ∀ H', St H' (Γ.set i (p, ⟨tbC (t.put x s), true⟩)) → K undef H') : opW (storeTo 36 (ptr p o) (agg (slC s)) H) K := by
  rcases hx with rfl | rfl
  · have ho : o = 0 := ho
    subst ho
    exact store_at hO i hi rfl (show 0 + 36 ≤ 75 by omega) rfl fun H' hO => hk H' hO
  · have ho : o = 36 := ho
    subst ho
    exact store_at hO i hi rfl (show 36 + 36 ≤ 75 by omega) rfl fun H' hO => hk H' hO
theorem table_Apply_spec {v : Value} (hO : St H Γ) (hv : RdC Γ v l) (hl : l.length ≤ 1000000) (hk : ∀ H', St H' Γ → K (.tuple [agg (tbC (tApply t l).1), int (tApply t l).2].toArray) H') : wCall P n_table_Apply [agg (tbC t), v] H K := by
  apply table_Apply_ok; unfold table_Apply
  refine new_at hO ?_
  intro p H hO
  rw [zc29]
  refine new_at hO ?_
  intro q H hO
  rw [List.append_assoc] at hO
  have hO : St H (Γ ++ [(p, ⟨tbC t, true⟩), (q, ⟨tbC tbz, true⟩)]) := hO
  refine join_with (fun l' H' => l' = [v, ptr p 0, ptr q 0, int 0, .bool (decide ¬(TRight t ∧ TOk l))] ∧ St H' (Γ ++ [(p, ⟨tbC t, true⟩), (q, ⟨tbC tbz, true⟩)])) ?_ ?_
  · refine loadAll_at hO (Γ.length + 0) (at_r rfl) rfl (by omega) ?_
    refine table_Right_spec hO ?_
    intro H hO
    by_cases h : TRight t
    · rw [decide_eq_true h]
      repeat (first | refine opP_i (by first | exact qa | exact qs | exact nilCheck_ptr | exact offPtr_ptr | exact bin_eql | exact bin_neq | exact bin_lss | exact bin_gtr | exact bin_leq | exact bin_geq | exact un_not | exact pick_true | exact pick_false | exact qy | exact qn | exact qi | exact qj) ?_ | refine opW_i (by first | exact lenSl_sl | exact min_w | exact max_w) ?_ | refine wy ?_ | refine wn ?_ | refine wIf_t rfl ?_ | refine wIf_f rfl ?_ | refine cond_yes rfl ?_ | refine cond_no rfl ?_)
      refine table_transaction_spec hO hv.app hl ?_
      intro H hO
      repeat (first | refine opP_i (by first | exact qa | exact qs | exact nilCheck_ptr | exact offPtr_ptr | exact bin_eql | exact bin_neq | exact bin_lss | exact bin_gtr | exact bin_leq | exact bin_geq | exact un_not | exact pick_true | exact pick_false | exact qy | exact qn | exact qi | exact qj) ?_ | refine opW_i (by first | exact lenSl_sl | exact min_w | exact max_w) ?_ | refine wy ?_ | refine wn ?_ | refine wIf_t rfl ?_ | refine wIf_f rfl ?_ | refine cond_yes rfl ?_ | refine cond_no rfl ?_)
      refine ⟨?_, hO⟩
      rw [show (decide ¬(TRight t ∧ TOk l)) = !decide (TOk l) by by_cases hf : TOk l <;> simp [h, hf]]
    · rw [decide_eq_false h]
      repeat (first | refine opP_i (by first | exact qa | exact qs | exact nilCheck_ptr | exact offPtr_ptr | exact bin_eql | exact bin_neq | exact bin_lss | exact bin_gtr | exact bin_leq | exact bin_geq | exact un_not | exact pick_true | exact pick_false | exact qy | exact qn | exact qi | exact qj) ?_ | refine opW_i (by first | exact lenSl_sl | exact min_w | exact max_w) ?_ | refine wy ?_ | refine wn ?_ | refine wIf_t rfl ?_ | refine wIf_f rfl ?_ | refine cond_yes rfl ?_ | refine cond_no rfl ?_)
      refine ⟨?_, hO⟩
      rw [show (decide ¬(TRight t ∧ TOk l)) = true by simp [h]]
  clear hO
  rintro l' H ⟨rfl, hO⟩
  try simp only [nth_zero, nth_succ]
  refine wIf_dec (fun h => ?_) (fun h => ?_)
  · rw [show tApply t l = (tbz, 111) from if_neg h] at hk
    refine opP_i b29 ?_
    refine storeAll_at hO (Γ.length + 1) (at_r rfl) rfl rfl rfl ?_
    intro H hO
    have hO := hO.set_r
    refine loadAll_at hO (Γ.length + 1) (at_r rfl) rfl (by omega) ?_
    exact hk _ hO.left
  have h := Decidable.not_not.1 h
  rw [show tApply t l = (match apL t l with | some t' => (t', 0) | none => (tbz, 111)) from if_pos h] at hk
  refine opW_i (by rw [hv.1]) ?_
  refine table_Apply_L0_ind (fun k l' H' => ∃ (y : Nat) (t' : Tb), y ≤ l.length ∧ k = l.length - y ∧ l' = [ptr p 0, ptr q 0, int 0, v, int l.length, int y] ∧ St H' (Γ ++ [(p, ⟨tbC t', true⟩), (q, ⟨tbC tbz, true⟩)]) ∧ apL t l = apL t' (l.drop y)) _ _ ?_ l.length _ _ ⟨0, t, by omega, by omega, rfl, hO, rfl⟩
  clear hO
  rintro k l' H' ⟨y, t', hy, rfl, rfl, hO, ha⟩
  unfold table_Apply_L0
  try simp only [nth_zero, nth_succ]
  repeat (first | refine opP_i (by first | exact qa | exact qs | exact nilCheck_ptr | exact offPtr_ptr | exact bin_eql | exact bin_neq | exact bin_lss | exact bin_gtr | exact bin_leq | exact bin_geq | exact un_not | exact pick_true | exact pick_false | exact qy | exact qn | exact qi | exact qj) ?_ | refine opW_i (by first | exact lenSl_sl | exact min_w | exact max_w) ?_ | refine wy ?_ | refine wn ?_ | refine wIf_t rfl ?_ | refine wIf_f rfl ?_ | refine cond_yes rfl ?_ | refine cond_no rfl ?_)
  refine wIf_dec (fun h2 => ?_) (fun h2 => ?_)
  · rcases hv.2 with rfl | ⟨pv, cp, j, rfl, w, hj⟩
    · simp at h2; omega
    have hyl : y < l.length := by omega
    have e : 0 + ((y : Nat) : Int).toNat * 40 = y * 40 := by rw [Int.toNat_natCast]; omega
    have hcr := h.2.2 _ (List.getElem_mem hyl)
    have had : apL t l = (match ap1 t' l[y] with | some t'' => apL t'' (l.drop (y + 1)) | none => none) := by rw [ha, List.drop_eq_getElem_cons hyl]; rfl
    repeat (first | refine opP_i (by first | exact qa | exact qs | exact nilCheck_ptr | exact offPtr_ptr | exact bin_eql | exact bin_neq | exact bin_lss | exact bin_gtr | exact bin_leq | exact bin_geq | exact un_not | exact pick_true | exact pick_false | exact qy | exact qn | exact qi | exact qj) ?_ | refine opW_i (by first | exact lenSl_sl | exact min_w | exact max_w) ?_ | refine wy ?_ | refine wn ?_ | refine wIf_t rfl ?_ | refine wIf_f rfl ?_ | refine cond_yes rfl ?_ | refine cond_no rfl ?_)
    refine loadAgg_at hO j (at_l hj) (show _ = chC l[y] from ?_) rfl (by omega) ?_
    · rw [e]; exact chs_at l y hyl
    rw [zc58]
    refine new_at hO ?_
    intro b H hO
    rw [List.append_assoc] at hO
    generalize l[y] = c at *
    refine storeAll_at hO (Γ.length + 2) (at_r rfl) rfl rfl rfl ?_
    intro H hO
    have hO : St H (Γ ++ [(p, ⟨tbC t', true⟩), (q, ⟨tbC tbz, true⟩), (b, ⟨chC c, true⟩)]) := hO.set_r
    unfold ap1 at had
    unfold CRight at hcr
    repeat (first | refine opP_i (by first | exact qa | exact qs | exact nilCheck_ptr | exact offPtr_ptr | exact bin_eql | exact bin_neq | exact bin_lss | exact bin_gtr | exact bin_leq | exact bin_geq | exact un_not | exact pick_true | exact pick_false | exact qy | exact qn | exact qi | exact qj) ?_ | refine opW_i (by first | exact lenSl_sl | exact min_w | exact max_w) ?_ | refine wy ?_ | refine wn ?_ | refine wIf_t rfl ?_ | refine wIf_f rfl ?_ | refine cond_yes rfl ?_ | refine cond_no rfl ?_ | refine ld hO 0 rfl rfl ?_ | refine ld hO 1 rfl rfl ?_ | refine ld hO 2 rfl rfl ?_ | refine ld hO 3 rfl rfl ?_ | refine ld hO 4 rfl rfl ?_ | refine ld hO 5 rfl rfl ?_)
    by_cases h1 : c.kind = 1
    · rw [if_pos h1] at had
      have hi : Ix c.slot := by rcases hcr with h | h | h | h; exact h.2.1.1; all_goals omega
      have hi' := hi.bd
      repeat (first | refine opP_i (by first | exact qa | exact qs | exact nilCheck_ptr | exact offPtr_ptr | exact bin_eql | exact bin_neq | exact bin_lss | exact bin_gtr | exact bin_leq | exact bin_geq | exact un_not | exact pick_true | exact pick_false | exact qy | exact qn | exact qi | exact qj) ?_ | refine opW_i (by first | exact lenSl_sl | exact min_w | exact max_w) ?_ | refine wy ?_ | refine wn ?_ | refine wIf_t rfl ?_ | refine wIf_f rfl ?_ | refine cond_yes rfl ?_ | refine cond_no rfl ?_ | refine ld hO 0 rfl rfl ?_ | refine ld hO 1 rfl rfl ?_ | refine ld hO 2 rfl rfl ?_ | refine ld hO 3 rfl rfl ?_ | refine ld hO 4 rfl rfl ?_ | refine ld hO 5 rfl rfl ?_)
      refine loadAgg_at hO (Γ.length + 2) (at_r rfl) (show _ = slC c.to from rfl) rfl (by omega) ?_
      repeat (first | refine opP_i (by first | exact qa | exact qs | exact nilCheck_ptr | exact offPtr_ptr | exact bin_eql | exact bin_neq | exact bin_lss | exact bin_gtr | exact bin_leq | exact bin_geq | exact un_not | exact pick_true | exact pick_false | exact qy | exact qn | exact qi | exact qj) ?_ | refine opW_i (by first | exact lenSl_sl | exact min_w | exact max_w) ?_ | refine wy ?_ | refine wn ?_ | refine wIf_t rfl ?_ | refine wIf_f rfl ?_ | refine cond_yes rfl ?_ | refine cond_no rfl ?_ | refine ld hO 0 rfl rfl ?_ | refine ld hO 1 rfl rfl ?_ | refine ld hO 2 rfl rfl ?_ | refine ld hO 3 rfl rfl ?_ | refine ld hO 4 rfl rfl ?_ | refine ld hO 5 rfl rfl ?_)
      refine store_slot (t := t') (x := c.slot) hO (Γ.length + 0) (at_r rfl) hi (by omega) ?_
      intro H hO
      have hO := hO.set_r
      repeat (first | refine opP_i (by first | exact qa | exact qs | exact nilCheck_ptr | exact offPtr_ptr | exact bin_eql | exact bin_neq | exact bin_lss | exact bin_gtr | exact bin_leq | exact bin_geq | exact un_not | exact pick_true | exact pick_false | exact qy | exact qn | exact qi | exact qj) ?_ | refine opW_i (by first | exact lenSl_sl | exact min_w | exact max_w) ?_ | refine wy ?_ | refine wn ?_ | refine wIf_t rfl ?_ | refine wIf_f rfl ?_ | refine cond_yes rfl ?_ | refine cond_no rfl ?_ | refine ld hO 0 rfl rfl ?_ | refine ld hO 1 rfl rfl ?_ | refine ld hO 2 rfl rfl ?_ | refine ld hO 3 rfl rfl ?_ | refine ld hO 4 rfl rfl ?_ | refine ld hO 5 rfl rfl ?_)
      exact ⟨_, by omega, y + 1, _, by omega, rfl, rfl, hO.keep 2, had⟩
    · rw [if_neg h1] at had
      repeat (first | refine opP_i (by first | exact qa | exact qs | exact nilCheck_ptr | exact offPtr_ptr | exact bin_eql | exact bin_neq | exact bin_lss | exact bin_gtr | exact bin_leq | exact bin_geq | exact un_not | exact pick_true | exact pick_false | exact qy | exact qn | exact qi | exact qj) ?_ | refine opW_i (by first | exact lenSl_sl | exact min_w | exact max_w) ?_ | refine wy ?_ | refine wn ?_ | refine wIf_t rfl ?_ | refine wIf_f rfl ?_ | refine cond_yes rfl ?_ | refine cond_no rfl ?_ | refine ld hO 0 rfl rfl ?_ | refine ld hO 1 rfl rfl ?_ | refine ld hO 2 rfl rfl ?_ | refine ld hO 3 rfl rfl ?_ | refine ld hO 4 rfl rfl ?_ | refine ld hO 5 rfl rfl ?_)
      by_cases h2 : c.kind = 2
      · rw [if_pos h2] at had
        repeat (first | refine opP_i (by first | exact qa | exact qs | exact nilCheck_ptr | exact offPtr_ptr | exact bin_eql | exact bin_neq | exact bin_lss | exact bin_gtr | exact bin_leq | exact bin_geq | exact un_not | exact pick_true | exact pick_false | exact qy | exact qn | exact qi | exact qj) ?_ | refine opW_i (by first | exact lenSl_sl | exact min_w | exact max_w) ?_ | refine wy ?_ | refine wn ?_ | refine wIf_t rfl ?_ | refine wIf_f rfl ?_ | refine cond_yes rfl ?_ | refine cond_no rfl ?_ | refine ld hO 0 rfl rfl ?_ | refine ld hO 1 rfl rfl ?_ | refine ld hO 2 rfl rfl ?_ | refine ld hO 3 rfl rfl ?_ | refine ld hO 4 rfl rfl ?_ | refine ld hO 5 rfl rfl ?_)
        refine store1_at hO (Γ.length + 0) (at_r rfl) rfl (show 72 < 75 by omega) (show _ = tbC { t' with act := c.n } from rfl) ?_
        intro H hO
        have hO := hO.set_r
        repeat (first | refine opP_i (by first | exact qa | exact qs | exact nilCheck_ptr | exact offPtr_ptr | exact bin_eql | exact bin_neq | exact bin_lss | exact bin_gtr | exact bin_leq | exact bin_geq | exact un_not | exact pick_true | exact pick_false | exact qy | exact qn | exact qi | exact qj) ?_ | refine opW_i (by first | exact lenSl_sl | exact min_w | exact max_w) ?_ | refine wy ?_ | refine wn ?_ | refine wIf_t rfl ?_ | refine wIf_f rfl ?_ | refine cond_yes rfl ?_ | refine cond_no rfl ?_ | refine ld hO 0 rfl rfl ?_ | refine ld hO 1 rfl rfl ?_ | refine ld hO 2 rfl rfl ?_ | refine ld hO 3 rfl rfl ?_ | refine ld hO 4 rfl rfl ?_ | refine ld hO 5 rfl rfl ?_)
        exact ⟨_, by omega, y + 1, _, by omega, rfl, rfl, hO.keep 2, had⟩
      · rw [if_neg h2] at had
        repeat (first | refine opP_i (by first | exact qa | exact qs | exact nilCheck_ptr | exact offPtr_ptr | exact bin_eql | exact bin_neq | exact bin_lss | exact bin_gtr | exact bin_leq | exact bin_geq | exact un_not | exact pick_true | exact pick_false | exact qy | exact qn | exact qi | exact qj) ?_ | refine opW_i (by first | exact lenSl_sl | exact min_w | exact max_w) ?_ | refine wy ?_ | refine wn ?_ | refine wIf_t rfl ?_ | refine wIf_f rfl ?_ | refine cond_yes rfl ?_ | refine cond_no rfl ?_ | refine ld hO 0 rfl rfl ?_ | refine ld hO 1 rfl rfl ?_ | refine ld hO 2 rfl rfl ?_ | refine ld hO 3 rfl rfl ?_ | refine ld hO 4 rfl rfl ?_ | refine ld hO 5 rfl rfl ?_)
        by_cases h3 : c.kind = 3
        · rw [if_pos h3] at had
          repeat (first | refine opP_i (by first | exact qa | exact qs | exact nilCheck_ptr | exact offPtr_ptr | exact bin_eql | exact bin_neq | exact bin_lss | exact bin_gtr | exact bin_leq | exact bin_geq | exact un_not | exact pick_true | exact pick_false | exact qy | exact qn | exact qi | exact qj) ?_ | refine opW_i (by first | exact lenSl_sl | exact min_w | exact max_w) ?_ | refine wy ?_ | refine wn ?_ | refine wIf_t rfl ?_ | refine wIf_f rfl ?_ | refine cond_yes rfl ?_ | refine cond_no rfl ?_ | refine ld hO 0 rfl rfl ?_ | refine ld hO 1 rfl rfl ?_ | refine ld hO 2 rfl rfl ?_ | refine ld hO 3 rfl rfl ?_ | refine ld hO 4 rfl rfl ?_ | refine ld hO 5 rfl rfl ?_)
          refine store1_at hO (Γ.length + 0) (at_r rfl) rfl (show 73 < 75 by omega) (show _ = tbC { t' with boo := c.n } from rfl) ?_
          intro H hO
          have hO := hO.set_r
          repeat (first | refine opP_i (by first | exact qa | exact qs | exact nilCheck_ptr | exact offPtr_ptr | exact bin_eql | exact bin_neq | exact bin_lss | exact bin_gtr | exact bin_leq | exact bin_geq | exact un_not | exact pick_true | exact pick_false | exact qy | exact qn | exact qi | exact qj) ?_ | refine opW_i (by first | exact lenSl_sl | exact min_w | exact max_w) ?_ | refine wy ?_ | refine wn ?_ | refine wIf_t rfl ?_ | refine wIf_f rfl ?_ | refine cond_yes rfl ?_ | refine cond_no rfl ?_ | refine ld hO 0 rfl rfl ?_ | refine ld hO 1 rfl rfl ?_ | refine ld hO 2 rfl rfl ?_ | refine ld hO 3 rfl rfl ?_ | refine ld hO 4 rfl rfl ?_ | refine ld hO 5 rfl rfl ?_)
          exact ⟨_, by omega, y + 1, _, by omega, rfl, rfl, hO.keep 2, had⟩
        · rw [if_neg h3] at had
          have h4 : c.kind = 4 := by omega
          repeat (first | refine opP_i (by first | exact qa | exact qs | exact nilCheck_ptr | exact offPtr_ptr | exact bin_eql | exact bin_neq | exact bin_lss | exact bin_gtr | exact bin_leq | exact bin_geq | exact un_not | exact pick_true | exact pick_false | exact qy | exact qn | exact qi | exact qj) ?_ | refine opW_i (by first | exact lenSl_sl | exact min_w | exact max_w) ?_ | refine wy ?_ | refine wn ?_ | refine wIf_t rfl ?_ | refine wIf_f rfl ?_ | refine cond_yes rfl ?_ | refine cond_no rfl ?_ | refine ld hO 0 rfl rfl ?_ | refine ld hO 1 rfl rfl ?_ | refine ld hO 2 rfl rfl ?_ | refine ld hO 3 rfl rfl ?_ | refine ld hO 4 rfl rfl ?_ | refine ld hO 5 rfl rfl ?_)
          refine wIf_dec (fun h5 => ?_) (fun h5 => ?_)
          · rw [if_pos h5] at had
            rw [had] at hk
            refine opP_i b29 ?_
            refine storeAll_at hO (Γ.length + 1) (at_r rfl) rfl rfl rfl ?_
            intro H hO
            have hO := hO.set_r
            try simp only [nth_zero, nth_succ]
            refine loadAll_at hO (Γ.length + 1) (at_r rfl) rfl (by omega) ?_
            exact hk _ hO.left
          · rw [if_neg h5] at had
            repeat (first | refine opP_i (by first | exact qa | exact qs | exact nilCheck_ptr | exact offPtr_ptr | exact bin_eql | exact bin_neq | exact bin_lss | exact bin_gtr | exact bin_leq | exact bin_geq | exact un_not | exact pick_true | exact pick_false | exact qy | exact qn | exact qi | exact qj) ?_ | refine opW_i (by first | exact lenSl_sl | exact min_w | exact max_w) ?_ | refine wy ?_ | refine wn ?_ | refine wIf_t rfl ?_ | refine wIf_f rfl ?_ | refine cond_yes rfl ?_ | refine cond_no rfl ?_ | refine ld hO 0 rfl rfl ?_ | refine ld hO 1 rfl rfl ?_ | refine ld hO 2 rfl rfl ?_ | refine ld hO 3 rfl rfl ?_ | refine ld hO 4 rfl rfl ?_ | refine ld hO 5 rfl rfl ?_)
            refine store1_at hO (Γ.length + 0) (at_r rfl) rfl (show 74 < 75 by omega) (show _ = tbC { t' with flo := c.ver } from rfl) ?_
            intro H hO
            have hO := hO.set_r
            repeat (first | refine opP_i (by first | exact qa | exact qs | exact nilCheck_ptr | exact offPtr_ptr | exact bin_eql | exact bin_neq | exact bin_lss | exact bin_gtr | exact bin_leq | exact bin_geq | exact un_not | exact pick_true | exact pick_false | exact qy | exact qn | exact qi | exact qj) ?_ | refine opW_i (by first | exact lenSl_sl | exact min_w | exact max_w) ?_ | refine wy ?_ | refine wn ?_ | refine wIf_t rfl ?_ | refine wIf_f rfl ?_ | refine cond_yes rfl ?_ | refine cond_no rfl ?_ | refine ld hO 0 rfl rfl ?_ | refine ld hO 1 rfl rfl ?_ | refine ld hO 2 rfl rfl ?_ | refine ld hO 3 rfl rfl ?_ | refine ld hO 4 rfl rfl ?_ | refine ld hO 5 rfl rfl ?_)
            exact ⟨_, by omega, y + 1, _, by omega, rfl, rfl, hO.keep 2, had⟩
  · have e : y = l.length := by omega
    subst e
    rw [List.drop_of_length_le (Nat.le_refl _)] at ha
    rw [show apL t l = some t' from ha] at hk
    repeat (first | refine opP_i (by first | exact qa | exact qs | exact nilCheck_ptr | exact offPtr_ptr | exact bin_eql | exact bin_neq | exact bin_lss | exact bin_gtr | exact bin_leq | exact bin_geq | exact un_not | exact pick_true | exact pick_false | exact qy | exact qn | exact qi | exact qj) ?_ | refine opW_i (by first | exact lenSl_sl | exact min_w | exact max_w) ?_ | refine wy ?_ | refine wn ?_ | refine wIf_t rfl ?_ | refine wIf_f rfl ?_ | refine cond_yes rfl ?_ | refine cond_no rfl ?_)
    try simp only [nth_zero, nth_succ]
    refine loadAll_at hO (Γ.length + 0) (at_r rfl) rfl (by omega) ?_
    refine storeAll_at hO (Γ.length + 1) (at_r rfl) rfl rfl rfl ?_
    intro H hO
    have hO := hO.set_r
    refine loadAll_at hO (Γ.length + 1) (at_r rfl) rfl (by omega) ?_
    exact hk _ hO.left
end
variable {H : Heap} {Γ : List (Nat × Blk)} {K : Value → Heap → Prop}
/-- what is said of a table -/
structure Sd where
  kind : Int
  i : Int
  s : Sl
def sdC (a : Sd) : List Value := int a.kind :: int a.i :: slC a.s
section
variable {t : Tb} {a : Sd}
abbrev MadeL (Γ : List (Nat × Blk)) (K : Value → Heap → Prop) (l : List Ch) : Prop := ∀ (H' : Heap) (v : Value), St H' (Γ ++ outB v (chs l)) → Own 40 v l.length (chs l) → K v H'
/-! the plain law -/
theorem Tb.put_sl {i j : Int} {s : Sl} (hi : Ix i) (hj : Ix j) : (t.put i s).sl j = if j = i then s else t.sl j := by
  unfold Tb.put Tb.sl
  rcases hi with rfl | rfl <;> rcases hj with rfl | rfl <;> rfl
theorem Tb.put_act {i : Int} {s : Sl} : (t.put i s).act = t.act := by unfold Tb.put; split <;> rfl
theorem Tb.put_boo {i : Int} {s : Sl} : (t.put i s).boo = t.boo := by unfold Tb.put; split <;> rfl
theorem Tb.put_flo {i : Int} {s : Sl} : (t.put i s).flo = t.flo := by unfold Tb.put; split <;> rfl
theorem TRight.put {i : Int} {s : Sl} (h : TRight t) (hs : SRight s) : TRight (t.put i s) := by
  unfold TRight Tb.put at *
  split
  · exact ⟨hs, h.2⟩
  · exact ⟨h.1, hs, h.2.2⟩
/-- what can be applied -/
def Goes (t : Tb) (c : Ch) : Prop := CRight c ∧ (c.kind = 4 → t.flo ≤ c.ver)
theorem ap1_ok {c : Ch} (h : TRight t) (hc : Goes t c) : ∃ t', ap1 t c = some t' ∧ TRight t' ∧ t.flo ≤ t'.flo := by
  obtain ⟨hc, hf⟩ := hc
  unfold ap1
  by_cases h1 : c.kind = 1
  · rw [if_pos h1]
    refine ⟨_, rfl, h.put ?_, by rw [Tb.put_flo]; omega⟩
    rcases hc with h | h | h | h
    · exact h.2.1.2
    all_goals omega
  rw [if_neg h1]
  by_cases h2 : c.kind = 2
  · rw [if_pos h2]
    refine ⟨_, rfl, ⟨h.1, h.2.1, ?_, h.2.2.2⟩, by show t.flo ≤ t.flo; omega⟩
    rcases hc with h | h | h | h
    · omega
    · exact h.2.1
    all_goals omega
  rw [if_neg h2]
  by_cases h3 : c.kind = 3
  · rw [if_pos h3]
    refine ⟨_, rfl, ⟨h.1, h.2.1, h.2.2.1, ?_, h.2.2.2.2⟩, by show t.flo ≤ t.flo; omega⟩
    rcases hc with h | h | h | h
    · omega
    · omega
    · exact h.2.1
    · omega
  rw [if_neg h3]
  have h4 : c.kind = 4 := by rcases hc with h | h | h | h <;> omega
  have := hf h4
  rw [if_neg (by omega)]
  refine ⟨_, rfl, ⟨h.1, h.2.1, h.2.2.1, h.2.2.2.1, ?_⟩, by show t.flo ≤ c.ver; omega⟩
  rcases hc with h | h | h | h
  · omega
  · omega
  · omega
  · exact h.2.1
theorem SZ0 : SZ (slz 0) := SEq.rfl' _
theorem goes_set {i : Int} {s : Sl} (hi : Ix i) (hs : SRight s) : Goes t (cSet i s) := ⟨.inl ⟨rfl, ⟨hi, hs⟩, rfl, rfl⟩, by intro h; cases h⟩
theorem goes_act {i : Int} (hi : Ix i) : Goes t (cAct i) := ⟨.inr (.inl ⟨rfl, hi, rfl, SZ0, rfl⟩), by intro h; cases h⟩
theorem goes_boo {i : Int} (hi : Ix i) : Goes t (cBoo i) := ⟨.inr (.inr (.inl ⟨rfl, .inr hi, rfl, SZ0, rfl⟩)), by intro h; cases h⟩
theorem goes_flo {v : Int} (h : t.flo ≤ v) (h2 : v ≤ 281474976710656) : Goes t (cFlo v) := ⟨.inr (.inr (.inr ⟨rfl, h2, rfl, rfl, SZ0⟩)), fun _ => h⟩
theorem slz_right {st : Int} (h : st = 0 ∨ st = 1 ∨ st = 4) : SRight (slz st) := .inl ⟨h, rfl, rfl, rfl, eqCells_self (fitD _)⟩
/-- the changes go, and end in a table -/
def Goal (t : Tb) (l : List Ch) (Q : Tb → Prop) : Prop := TOk l ∧ ∃ t', apL t l = some t' ∧ TRight t' ∧ t.flo ≤ t'.flo ∧ Q t'
theorem Goal.nil {Q : Tb → Prop} (h : TRight t) (hq : Q t) : Goal t [] Q := ⟨⟨by simp, by simp⟩, t, rfl, h, by omega, hq⟩
theorem Goal.cons {Q : Tb → Prop} {c : Ch} {l : List Ch} (h : TRight t) (hc : Goes t c) (hl : l.length ≤ 7) (hn : ∀ t', ap1 t c = some t' → TRight t' → t.flo ≤ t'.flo → Goal t' l Q) : Goal t (c :: l) Q := by
  obtain ⟨t1, e1, r1, f1⟩ := ap1_ok h hc
  obtain ⟨ho, t2, e2, r2, f2, hq⟩ := hn t1 e1 r1 f1
  refine ⟨⟨by simp; omega, ?_⟩, t2, ?_, r2, by omega, hq⟩
  · intro c' h'
    rcases List.mem_cons.1 h' with rfl | h'
    · exact hc.1
    · exact ho.2 _ h'
  · show (match ap1 t c with | some t' => apL t' l | none => none) = some t2
    rw [e1]; exact e2
theorem ap_set {i : Int} {s : Sl} : ap1 t (cSet i s) = some (t.put i s) := rfl
theorem ap_act {i : Int} : ap1 t (cAct i) = some { t with act := i } := rfl
theorem ap_boo {i : Int} : ap1 t (cBoo i) = some { t with boo := i } := rfl
def G3 (t : Tb) : Prop := t.a.st = 3 ∨ t.b.st = 3
theorem G3_iff : G3 t ↔ (t.sl 0).st = 3 ∨ (t.sl 1).st = 3 := Iff.rfl
theorem G3.put {i : Int} {s : Sl} (h : G3 t) (hi : Ix i) (hn : s.st = 3 ∨ (t.sl i).st ≠ 3 ∨ (t.sl (1 - i)).st = 3) : G3 (t.put i s) := by
  unfold G3 Tb.put Tb.sl at *
  rcases hi with rfl | rfl
  · simp at *; omega
  · simp at *; omega
theorem goal_set {Q : Tb → Prop} {i : Int} {s : Sl} {l : List Ch} (h : TRight t) (hi : Ix i) (hs : SRight s) (hl : l.length ≤ 7) (hn : TRight (t.put i s) → Goal (t.put i s) l Q) : Goal t (cSet i s :: l) Q :=
  Goal.cons h (goes_set hi hs) hl (fun t' e r _ => by rw [ap_set] at e; cases e; exact hn r)
theorem goal_act {Q : Tb → Prop} {i : Int} {l : List Ch} (h : TRight t) (hi : Ix i) (hl : l.length ≤ 7) (hn : TRight { t with act := i } → Goal { t with act := i } l Q) : Goal t (cAct i :: l) Q :=
  Goal.cons h (goes_act hi) hl (fun t' e r _ => by rw [ap_act] at e; cases e; exact hn r)
theorem goal_boo {Q : Tb → Prop} {i : Int} {l : List Ch} (h : TRight t) (hi : Ix i) (hl : l.length ≤ 7) (hn : TRight { t with boo := i } → Goal { t with boo := i } l Q) : Goal t (cBoo i :: l) Q :=
  Goal.cons h (goes_boo hi) hl (fun t' e r _ => by rw [ap_boo] at e; cases e; exact hn r)
theorem tPick_right (h : tPick t ≠ -1) : SBoot (t.sl (tPick t)) ∧ (tPick t ≠ t.act → tPick t = 1 - t.act ∧ ¬ SBoot (t.sl t.act)) := by
  unfold tPick at *
  by_cases hr : TRight t
  · rw [if_pos hr] at *
    unfold vPick at *
    by_cases h1 : SBoot (t.sl t.act)
    · rw [if_pos h1] at *
      exact ⟨h1, fun h => absurd rfl h⟩
    · rw [if_neg h1] at *
      by_cases h2 : SBoot (t.sl (1 - t.act))
      · rw [if_pos h2] at *
        exact ⟨h2, fun _ => ⟨rfl, h1⟩⟩
      · rw [if_neg h2] at h; exact absurd rfl h
  · rw [if_neg hr] at h; exact absurd rfl h
theorem good_pick (h : TRight t) (hg : G3 t) : Ix (vPick t) ∧ SBoot (t.sl (vPick t)) := by
  have ha := h.2.2.1
  unfold vPick
  by_cases h1 : SBoot (t.sl t.act)
  · rw [if_pos h1]; exact ⟨ha, h1⟩
  rw [if_neg h1]
  by_cases h2 : SBoot (t.sl (1 - t.act))
  · rw [if_pos h2]; exact ⟨ha.flip, h2⟩
  exfalso
  have hb : ∀ j, (t.sl j).st = 3 → SBoot (t.sl j) := fun j hj => ⟨h.sl, .inl hj⟩
  rcases ha with e | e
  · rw [e] at h1 h2
    rcases G3_iff.1 hg with hg | hg
    · exact h1 (hb _ hg)
    · exact h2 (hb _ hg)
  · rw [e] at h1 h2
    rcases G3_iff.1 hg with hg | hg
    · exact h2 (hb _ hg)
    · exact h1 (hb _ hg)
end
end T
set_option linter.unusedVariables false
set_option maxRecDepth 100000
namespace T
open Go Go.Ab
variable {H : Heap} {Γ : List (Nat × Blk)} {K : Value → Heap → Prop}
section
variable {t : Tb} {s : Sl} {i : Int}
def kT : List CK := kS ++ (kS ++ [.i .i64, .i .i64, .i .u64])
theorem f37 : flatK P 100 37 = some kT := by kernel_rfl
theorem fitT (t : Tb) : Fit kT (tbC t) := Fit.join (fitS t.a) (Fit.join (fitS t.b) ⟨rfl, rfl, rfl, trivial⟩)
theorem eq37 (t t' : Tb) (c : Bool) : (binC P .eql 37 c).f (agg (tbC t)) (agg (tbC t')) = some (.bool (eqCells (tbC t) (tbC t'))) := bin_eql_f f37 (by kernel_rfl) (by kernel_rfl) (fitT t) (fitT t')
theorem eq37_self (t : Tb) (c : Bool) : (binC P .eql 37 c).f (agg (tbC t)) (agg (tbC t)) = some (.bool true) := by rw [eq37, eqCells_self (fitT t)]
theorem eq26_self (s : Sl) (c : Bool) : (binC P .eql 34 c).f (agg (slC s)) (agg (slC s)) = some (.bool true) := by rw [eq26, eqCells_self (fitS s)]
theorem put_put (hi : Ix i) : (t.put i s).put i (t.sl i) = t := by
  unfold Tb.put Tb.sl
  rcases hi with rfl | rfl <;> rfl
theorem apply_set : tApply t [cSet i s] = if TRight t ∧ Ix i ∧ SRight s then (t.put i s, 0) else (tbz, 111) := by
  unfold tApply
  by_cases h : TRight t ∧ Ix i ∧ SRight s
  · rw [if_pos h, if_pos]
    · rfl
    · exact ⟨h.1, by simp, fun c hc => by
        have : c = cSet i s := by simpa using hc
        subst this
        exact .inl ⟨rfl, h.2, rfl, rfl⟩⟩
  · rw [if_neg h, if_neg]
    rintro ⟨h1, _, h2⟩
    apply h
    refine ⟨h1, ?_⟩
    rcases h2 (cSet i s) (by simp) with h | h | h | h
    · exact h.2.1
    · exact absurd h.1 (show ¬ (1 : Int) = 2 by decide)
    · exact absurd h.1 (show ¬ (1 : Int) = 3 by decide)
    · exact absurd h.1 (show ¬ (1 : Int) = 4 by decide)
/-- a change of one slot -/
theorem apply_one {b : Nat} (hO : St H (Γ ++ [(b, ⟨chC (cSet i s), true⟩)])) (hk : ∀ H', St H' Γ → K (.tuple [agg (tbC (tApply t [cSet i s]).1), int (tApply t [cSet i s]).2].toArray) H') : wCall P n_table_Apply [agg (tbC t), sl b 0 1 81] H K := by
  have hO : St H (Γ ++ outB (sl b 0 1 81) (chs [cSet i s])) := by
    show St H (Γ ++ [(b, ⟨chs [cSet i s], true⟩)])
    rw [chs_one]; exact hO
  refine table_Apply_spec hO (RdC.own (own_one (cSet i s) b)).app' (by simp) ?_
  intro H hO
  exact hk _ hO.left
set_option maxHeartbeats 4000000 in
theorem slots_main (hO : St H Γ) : wCall P n_law11_TableSlots [agg (tbC t), int i, agg (slC s)] H fun v _ => v = .bool true := by
  apply law11_TableSlots_ok; unfold law11_TableSlots
  refine new_at hO ?_
  intro p H hO
  refine new_at hO ?_
  intro q H hO
  rw [List.append_assoc] at hO
  have hO : St H (Γ ++ [(p, ⟨tbC t, true⟩), (q, ⟨slC s, true⟩)]) := hO
  refine law11_tableAlive_spec ?_
  repeat (first | refine opP_i (by first | exact qa | exact qs | exact nilCheck_ptr | exact offPtr_ptr | exact bin_eql | exact bin_neq | exact bin_lss | exact bin_gtr | exact bin_leq | exact bin_geq | exact un_not | exact pick_true | exact pick_false | exact qy | exact qn | exact qi | exact qj) ?_ | refine opW_i (by first | exact lenSl_sl | exact min_w | exact max_w) ?_ | refine wy ?_ | refine wn ?_ | refine wIf_t rfl ?_ | refine wIf_f rfl ?_ | refine cond_yes rfl ?_ | refine cond_no rfl ?_)
  refine loadAll_at hO (Γ.length + 0) (at_r rfl) rfl (by omega) ?_
  refine loadAll_at hO (Γ.length + 1) (at_r rfl) rfl (by omega) ?_
  refine opP_i (b58s i s) ?_
  refine newSl_at hO (bs1 _ _) ?_
  intro b H hO
  refine apply_one hO ?_
  clear hO
  intro H hO
  obtain ⟨u, e, hu⟩ : ∃ u e, tApply t [cSet i s] = (u, e) := ⟨_, _, rfl⟩
  have hu' := hu
  rw [hu]
  rw [apply_set] at hu'
  refine opP_i ext0 ?_
  refine opP_i ext1 ?_
  rw [zc29]
  refine new_at hO ?_
  intro r H hO
  rw [List.append_assoc] at hO
  refine storeAll_at hO (Γ.length + 2) (at_r rfl) rfl rfl rfl ?_
  intro H hO
  replace hO : St H (Γ ++ [(p, ⟨tbC t, true⟩), (q, ⟨slC s, true⟩), (r, ⟨tbC u, true⟩)]) := hO.set_r
  refine join_with (fun l' H' => ∃ bd, l' = [int i, ptr p 0, ptr q 0, ptr r 0, int e, .bool bd] ∧ St H' (Γ ++ [(p, ⟨tbC t, true⟩), (q, ⟨slC s, true⟩), (r, ⟨tbC u, true⟩)]) ∧ (bd = false → (TRight t ∧ Ix i ∧ SRight s)) ∧ (bd = true → ¬ (TRight t ∧ Ix i ∧ SRight s))) ?_ ?_
  · refine loadAll_at hO (Γ.length + 0) (at_r rfl) rfl (by omega) ?_
    refine ref11_Right_spec hO ?_
    intro H hO
    by_cases hr : TRight t
    · rw [decide_eq_true hr]
      repeat (first | refine opP_i (by first | exact qa | exact qs | exact nilCheck_ptr | exact offPtr_ptr | exact bin_eql | exact bin_neq | exact bin_lss | exact bin_gtr | exact bin_leq | exact bin_geq | exact un_not | exact pick_true | exact pick_false | exact qy | exact qn | exact qi | exact qj) ?_ | refine opW_i (by first | exact lenSl_sl | exact min_w | exact max_w) ?_ | refine wy ?_ | refine wn ?_ | refine wIf_t rfl ?_ | refine wIf_f rfl ?_ | refine cond_yes rfl ?_ | refine cond_no rfl ?_ | refine ld hO 0 rfl rfl ?_ | refine ld hO 1 rfl rfl ?_ | refine ld hO 2 rfl rfl ?_ | refine ld hO 3 rfl rfl ?_ | refine ld hO 4 rfl rfl ?_ | refine ld hO 5 rfl rfl ?_)
      refine loadAll_at hO (Γ.length + 1) (at_r rfl) rfl (by omega) ?_
      refine ref10_Right_spec hO ?_
      intro H hO
      by_cases hs : SRight s
      · rw [decide_eq_true hs]
        repeat (first | refine opP_i (by first | exact qa | exact qs | exact nilCheck_ptr | exact offPtr_ptr | exact bin_eql | exact bin_neq | exact bin_lss | exact bin_gtr | exact bin_leq | exact bin_geq | exact un_not | exact pick_true | exact pick_false | exact qy | exact qn | exact qi | exact qj) ?_ | refine opW_i (by first | exact lenSl_sl | exact min_w | exact max_w) ?_ | refine wy ?_ | refine wn ?_ | refine wIf_t rfl ?_ | refine wIf_f rfl ?_ | refine cond_yes rfl ?_ | refine cond_no rfl ?_ | refine ld hO 0 rfl rfl ?_ | refine ld hO 1 rfl rfl ?_ | refine ld hO 2 rfl rfl ?_ | refine ld hO 3 rfl rfl ?_ | refine ld hO 4 rfl rfl ?_ | refine ld hO 5 rfl rfl ?_)
        refine wIf_dec (fun h => ?_) (fun h => ?_)
        · repeat (first | refine opP_i (by first | exact qa | exact qs | exact nilCheck_ptr | exact offPtr_ptr | exact bin_eql | exact bin_neq | exact bin_lss | exact bin_gtr | exact bin_leq | exact bin_geq | exact un_not | exact pick_true | exact pick_false | exact qy | exact qn | exact qi | exact qj) ?_ | refine opW_i (by first | exact lenSl_sl | exact min_w | exact max_w) ?_ | refine wy ?_ | refine wn ?_ | refine wIf_t rfl ?_ | refine wIf_f rfl ?_ | refine cond_yes rfl ?_ | refine cond_no rfl ?_ | refine ld hO 0 rfl rfl ?_ | refine ld hO 1 rfl rfl ?_ | refine ld hO 2 rfl rfl ?_ | refine ld hO 3 rfl rfl ?_ | refine ld hO 4 rfl rfl ?_ | refine ld hO 5 rfl rfl ?_)
          exact ⟨_, rfl, hO, (fun h' => by cases h'), (fun _ h' => by have := h'.2.1.bd; omega)⟩
        · repeat (first | refine opP_i (by first | exact qa | exact qs | exact nilCheck_ptr | exact offPtr_ptr | exact bin_eql | exact bin_neq | exact bin_lss | exact bin_gtr | exact bin_leq | exact bin_geq | exact un_not | exact pick_true | exact pick_false | exact qy | exact qn | exact qi | exact qj) ?_ | refine opW_i (by first | exact lenSl_sl | exact min_w | exact max_w) ?_ | refine wy ?_ | refine wn ?_ | refine wIf_t rfl ?_ | refine wIf_f rfl ?_ | refine cond_yes rfl ?_ | refine cond_no rfl ?_ | refine ld hO 0 rfl rfl ?_ | refine ld hO 1 rfl rfl ?_ | refine ld hO 2 rfl rfl ?_ | refine ld hO 3 rfl rfl ?_ | refine ld hO 4 rfl rfl ?_ | refine ld hO 5 rfl rfl ?_)
          refine ⟨_, rfl, hO, fun h' => ⟨hr, ?_, hs⟩, fun h' h2 => ?_⟩
          · have := of_decide_eq_false h'; unfold Ix; omega
          · have := h2.2.1.bd; have := of_decide_eq_true h'; omega
      · rw [decide_eq_false hs]
        repeat (first | refine opP_i (by first | exact qa | exact qs | exact nilCheck_ptr | exact offPtr_ptr | exact bin_eql | exact bin_neq | exact bin_lss | exact bin_gtr | exact bin_leq | exact bin_geq | exact un_not | exact pick_true | exact pick_false | exact qy | exact qn | exact qi | exact qj) ?_ | refine opW_i (by first | exact lenSl_sl | exact min_w | exact max_w) ?_ | refine wy ?_ | refine wn ?_ | refine wIf_t rfl ?_ | refine wIf_f rfl ?_ | refine cond_yes rfl ?_ | refine cond_no rfl ?_ | refine ld hO 0 rfl rfl ?_ | refine ld hO 1 rfl rfl ?_ | refine ld hO 2 rfl rfl ?_ | refine ld hO 3 rfl rfl ?_ | refine ld hO 4 rfl rfl ?_ | refine ld hO 5 rfl rfl ?_)
        exact ⟨_, rfl, hO, (fun h' => by cases h'), (fun _ h' => hs h'.2.2)⟩
    · rw [decide_eq_false hr]
      repeat (first | refine opP_i (by first | exact qa | exact qs | exact nilCheck_ptr | exact offPtr_ptr | exact bin_eql | exact bin_neq | exact bin_lss | exact bin_gtr | exact bin_leq | exact bin_geq | exact un_not | exact pick_true | exact pick_false | exact qy | exact qn | exact qi | exact qj) ?_ | refine opW_i (by first | exact lenSl_sl | exact min_w | exact max_w) ?_ | refine wy ?_ | refine wn ?_ | refine wIf_t rfl ?_ | refine wIf_f rfl ?_ | refine cond_yes rfl ?_ | refine cond_no rfl ?_ | refine ld hO 0 rfl rfl ?_ | refine ld hO 1 rfl rfl ?_ | refine ld hO 2 rfl rfl ?_ | refine ld hO 3 rfl rfl ?_ | refine ld hO 4 rfl rfl ?_ | refine ld hO 5 rfl rfl ?_)
      exact ⟨_, rfl, hO, (fun h' => by cases h'), (fun _ h' => hr h'.1)⟩
  clear hO
  rintro l' H ⟨bd, rfl, hO, h1, h2⟩
  try simp only [nth_zero, nth_succ]
  cases bd with
  | true =>
    rw [if_neg (h2 rfl)] at hu'
    cases hu'
    repeat (first | refine opP_i (by first | exact qa | exact qs | exact nilCheck_ptr | exact offPtr_ptr | exact bin_eql | exact bin_neq | exact bin_lss | exact bin_gtr | exact bin_leq | exact bin_geq | exact un_not | exact pick_true | exact pick_false | exact qy | exact qn | exact qi | exact qj) ?_ | refine opW_i (by first | exact lenSl_sl | exact min_w | exact max_w) ?_ | refine wy ?_ | refine wn ?_ | refine wIf_t rfl ?_ | refine wIf_f rfl ?_ | refine cond_yes rfl ?_ | refine cond_no rfl ?_ | refine ld hO 0 rfl rfl ?_ | refine ld hO 1 rfl rfl ?_ | refine ld hO 2 rfl rfl ?_ | refine ld hO 3 rfl rfl ?_ | refine ld hO 4 rfl rfl ?_ | refine ld hO 5 rfl rfl ?_)
    refine loadAll_at hO (Γ.length + 2) (at_r rfl) rfl (by omega) ?_
    refine opP_i b29 ?_
    refine opP_i (eq37_self _ _) ?_
    repeat (first | refine opP_i (by first | exact qa | exact qs | exact nilCheck_ptr | exact offPtr_ptr | exact bin_eql | exact bin_neq | exact bin_lss | exact bin_gtr | exact bin_leq | exact bin_geq | exact un_not | exact pick_true | exact pick_false | exact qy | exact qn | exact qi | exact qj) ?_ | refine opW_i (by first | exact lenSl_sl | exact min_w | exact max_w) ?_ | refine wy ?_ | refine wn ?_ | refine wIf_t rfl ?_ | refine wIf_f rfl ?_ | refine cond_yes rfl ?_ | refine cond_no rfl ?_ | refine ld hO 0 rfl rfl ?_ | refine ld hO 1 rfl rfl ?_ | refine ld hO 2 rfl rfl ?_ | refine ld hO 3 rfl rfl ?_ | refine ld hO 4 rfl rfl ?_ | refine ld hO 5 rfl rfl ?_)
    rfl
  | false =>
    have hg := h1 rfl
    obtain ⟨hr, hi, hs⟩ := hg
    have hib := hi.bd
    rw [if_pos ⟨hr, hi, hs⟩] at hu'
    cases hu'
    have hru := hr.put (i := i) hs
    have e1 : (t.put i s).sl i = s := by rw [Tb.put_sl hi hi, if_pos rfl]
    have e2 : (t.put i s).sl (1 - i) = t.sl (1 - i) := by rw [Tb.put_sl hi hi.flip, if_neg (by omega)]
    have e3 : (t.put i s).act = t.act := Tb.put_act
    have e4 : (t.put i s).boo = t.boo := Tb.put_boo
    have e5 : (t.put i s).flo = t.flo := Tb.put_flo
    have e6 : tApply (t.put i s) [cSet i (t.sl i)] = (t, 0) := by rw [apply_set, if_pos ⟨hru, hi, hr.sl⟩, put_put hi]
    generalize t.put i s = u at *
    repeat (first | refine opP_i (by first | exact qa | exact qs | exact nilCheck_ptr | exact offPtr_ptr | exact bin_eql | exact bin_neq | exact bin_lss | exact bin_gtr | exact bin_leq | exact bin_geq | exact un_not | exact pick_true | exact pick_false | exact qy | exact qn | exact qi | exact qj) ?_ | refine opW_i (by first | exact lenSl_sl | exact min_w | exact max_w) ?_ | refine wy ?_ | refine wn ?_ | refine wIf_t rfl ?_ | refine wIf_f rfl ?_ | refine cond_yes rfl ?_ | refine cond_no rfl ?_ | refine ld hO 0 rfl rfl ?_ | refine ld hO 1 rfl rfl ?_ | refine ld hO 2 rfl rfl ?_ | refine ld hO 3 rfl rfl ?_ | refine ld hO 4 rfl rfl ?_ | refine ld hO 5 rfl rfl ?_)
    refine loadAll_at hO (Γ.length + 2) (at_r rfl) rfl (by omega) ?_
    repeat (first | refine opP_i (by first | exact qa | exact qs | exact nilCheck_ptr | exact offPtr_ptr | exact bin_eql | exact bin_neq | exact bin_lss | exact bin_gtr | exact bin_leq | exact bin_geq | exact un_not | exact pick_true | exact pick_false | exact qy | exact qn | exact qi | exact qj) ?_ | refine opW_i (by first | exact lenSl_sl | exact min_w | exact max_w) ?_ | refine wy ?_ | refine wn ?_ | refine wIf_t rfl ?_ | refine wIf_f rfl ?_ | refine cond_yes rfl ?_ | refine cond_no rfl ?_ | refine ld hO 0 rfl rfl ?_ | refine ld hO 1 rfl rfl ?_ | refine ld hO 2 rfl rfl ?_ | refine ld hO 3 rfl rfl ?_ | refine ld hO 4 rfl rfl ?_ | refine ld hO 5 rfl rfl ?_)
    refine load_slot hO (Γ.length + 0) (at_r rfl) hi (by omega) ?_
    refine opP_i (b58s i (t.sl i)) ?_
    refine newSl_at hO (bs1 _ _) ?_
    intro b H hO
    refine apply_one hO ?_
    clear hO
    intro H hO
    rw [e6]
    refine opP_i ext0 ?_
    refine opP_i ext1 ?_
    refine new_at hO ?_
    intro x H hO
    rw [List.append_assoc] at hO
    refine storeAll_at hO (Γ.length + 3) (at_r rfl) rfl rfl rfl ?_
    intro H hO
    replace hO : St H (Γ ++ [(p, ⟨tbC t, true⟩), (q, ⟨slC s, true⟩), (r, ⟨tbC u, true⟩), (x, ⟨tbC t, true⟩)]) := hO.set_r
    repeat (first | refine opP_i (by first | exact qa | exact qs | exact nilCheck_ptr | exact offPtr_ptr | exact bin_eql | exact bin_neq | exact bin_lss | exact bin_gtr | exact bin_leq | exact bin_geq | exact un_not | exact pick_true | exact pick_false | exact qy | exact qn | exact qi | exact qj) ?_ | refine opW_i (by first | exact lenSl_sl | exact min_w | exact max_w) ?_ | refine wy ?_ | refine wn ?_ | refine wIf_t rfl ?_ | refine wIf_f rfl ?_ | refine cond_yes rfl ?_ | refine cond_no rfl ?_ | refine ld hO 0 rfl rfl ?_ | refine ld hO 1 rfl rfl ?_ | refine ld hO 2 rfl rfl ?_ | refine ld hO 3 rfl rfl ?_ | refine ld hO 4 rfl rfl ?_ | refine ld hO 5 rfl rfl ?_)
    refine loadAll_at hO (Γ.length + 3) (at_r rfl) rfl (by omega) ?_
    refine loadAll_at hO (Γ.length + 0) (at_r rfl) rfl (by omega) ?_
    refine opP_i (eq37_self _ _) ?_
    repeat (first | refine opP_i (by first | exact qa | exact qs | exact nilCheck_ptr | exact offPtr_ptr | exact bin_eql | exact bin_neq | exact bin_lss | exact bin_gtr | exact bin_leq | exact bin_geq | exact un_not | exact pick_true | exact pick_false | exact qy | exact qn | exact qi | exact qj) ?_ | refine opW_i (by first | exact lenSl_sl | exact min_w | exact max_w) ?_ | refine wy ?_ | refine wn ?_ | refine wIf_t rfl ?_ | refine wIf_f rfl ?_ | refine cond_yes rfl ?_ | refine cond_no rfl ?_ | refine ld hO 0 rfl rfl ?_ | refine ld hO 1 rfl rfl ?_ | refine ld hO 2 rfl rfl ?_ | refine ld hO 3 rfl rfl ?_ | refine ld hO 4 rfl rfl ?_ | refine ld hO 5 rfl rfl ?_)
    refine load_slot hO (Γ.length + 2) (at_r rfl) hi (by omega) ?_
    refine loadAll_at hO (Γ.length + 1) (at_r rfl) rfl (by omega) ?_
    rw [e1]
    refine opP_i (eq26_self _ _) ?_
    repeat (first | refine opP_i (by first | exact qa | exact qs | exact nilCheck_ptr | exact offPtr_ptr | exact bin_eql | exact bin_neq | exact bin_lss | exact bin_gtr | exact bin_leq | exact bin_geq | exact un_not | exact pick_true | exact pick_false | exact qy | exact qn | exact qi | exact qj) ?_ | refine opW_i (by first | exact lenSl_sl | exact min_w | exact max_w) ?_ | refine wy ?_ | refine wn ?_ | refine wIf_t rfl ?_ | refine wIf_f rfl ?_ | refine cond_yes rfl ?_ | refine cond_no rfl ?_ | refine ld hO 0 rfl rfl ?_ | refine ld hO 1 rfl rfl ?_ | refine ld hO 2 rfl rfl ?_ | refine ld hO 3 rfl rfl ?_ | refine ld hO 4 rfl rfl ?_ | refine ld hO 5 rfl rfl ?_)
    refine load_slot hO (Γ.length + 2) (at_r rfl) hi.flip (by omega) ?_
    repeat (first | refine opP_i (by first | exact qa | exact qs | exact nilCheck_ptr | exact offPtr_ptr | exact bin_eql | exact bin_neq | exact bin_lss | exact bin_gtr | exact bin_leq | exact bin_geq | exact un_not | exact pick_true | exact pick_false | exact qy | exact qn | exact qi | exact qj) ?_ | refine opW_i (by first | exact lenSl_sl | exact min_w | exact max_w) ?_ | refine wy ?_ | refine wn ?_ | refine wIf_t rfl ?_ | refine wIf_f rfl ?_ | refine cond_yes rfl ?_ | refine cond_no rfl ?_ | refine ld hO 0 rfl rfl ?_ | refine ld hO 1 rfl rfl ?_ | refine ld hO 2 rfl rfl ?_ | refine ld hO 3 rfl rfl ?_ | refine ld hO 4 rfl rfl ?_ | refine ld hO 5 rfl rfl ?_)
    refine load_slot hO (Γ.length + 0) (at_r rfl) hi.flip (by omega) ?_
    rw [e2]
    refine opP_i (eq26_self _ _) ?_
    repeat (first | refine opP_i (by first | exact qa | exact qs | exact nilCheck_ptr | exact offPtr_ptr | exact bin_eql | exact bin_neq | exact bin_lss | exact bin_gtr | exact bin_leq | exact bin_geq | exact un_not | exact pick_true | exact pick_false | exact qy | exact qn | exact qi | exact qj) ?_ | refine opW_i (by first | exact lenSl_sl | exact min_w | exact max_w) ?_ | refine wy ?_ | refine wn ?_ | refine wIf_t rfl ?_ | refine wIf_f rfl ?_ | refine cond_yes rfl ?_ | refine cond_no rfl ?_ | refine ld hO 0 rfl rfl ?_ | refine ld hO 1 rfl rfl ?_ | refine ld hO 2 rfl rfl ?_ | refine ld hO 3 rfl rfl ?_ | refine ld hO 4 rfl rfl ?_ | refine ld hO 5 rfl rfl ?_)
    rw [decide_eq_true e5]
end
end T
set_option linter.unusedVariables false
set_option maxRecDepth 100000
namespace T
open Go Go.Ab
theorem shp_structH {P : Program} {t : TypeId} {fs : Array Field} (ht : P.underlying t = some (.struct fs)) {ts : List TypeId} {N : Nat} {c : List Value} {b : List (List Value)} (h : ShpL P (t :: ts) N c b) : ShpL P (fs.toList.map (·.type) ++ ts) N c b := by
  cases h with
  | struct hu h => rw [ht] at hu; cases hu; exact h
  | array hu _ => rw [ht] at hu; cases hu
  | int v hu _ _ => rw [ht] at hu; cases hu
  | bool v hu _ => rw [ht] at hu; cases hu
  | str v hu _ _ => rw [ht] at hu; cases hu
  | slNil hu _ => rw [ht] at hu; cases hu
  | sl len hu _ _ _ _ => rw [ht] at hu; cases hu
theorem shp_arrayH {P : Program} {t e : TypeId} {n : Nat} (ht : P.underlying t = some (.array n e)) {ts : List TypeId} {N : Nat} {c : List Value} {b : List (List Value)} (h : ShpL P (t :: ts) N c b) : ShpL P (List.replicate n e ++ ts) N c b := by
  cases h with
  | array hu h => rw [ht] at hu; cases hu; exact h
  | struct hu _ => rw [ht] at hu; cases hu
  | int v hu _ _ => rw [ht] at hu; cases hu
  | bool v hu _ => rw [ht] at hu; cases hu
  | str v hu _ _ => rw [ht] at hu; cases hu
  | slNil hu _ => rw [ht] at hu; cases hu
  | sl len hu _ _ _ _ => rw [ht] at hu; cases hu
theorem shp_intsH {P : Program} {e : TypeId} {k : IntKind} (he : P.underlying e = some (.int k)) {ts : List TypeId} : ∀ (n N : Nat) (c : List Value) (b : List (List Value)), ShpL P (List.replicate n e ++ ts) N c b → ∃ (xs : List Int) (c' : List Value), xs.length = n ∧ c = xs.map (Value.int k) ++ c' ∧ ShpL P ts N c' b
  | 0, N, c, b, h => ⟨[], c, rfl, rfl, h⟩
  | n + 1, N, c, b, h => by
    obtain ⟨x, c', rfl, _, h1⟩ := shp_int1 he (show ShpL P (e :: (List.replicate n e ++ ts)) N c b from h)
    obtain ⟨xs, c'', hl, rfl, h2⟩ := shp_intsH he n N _ _ h1
    exact ⟨x :: xs, c'', by simp [hl], rfl, h2⟩
theorem dgC_eq (xs : List Int) (h : xs.length = 32) : xs.map (Value.int .u8) = dgC (fun i => xs.getD i 0) := by
  apply List.ext_getElem?
  intro j
  have e : dgC (fun i => xs.getD i 0) = (List.range 32).map fun i => Value.int .u8 (xs.getD i 0) := rfl
  rw [e]
  by_cases hj : j < 32
  · simp [hj, h, List.getElem?_eq_getElem (show j < xs.length by omega)]
  · rw [List.getElem?_eq_none (by simp; omega), List.getElem?_eq_none (by simp; omega)]
theorem shp_slot {ts : List TypeId} {N : Nat} {c : List Value} {b : List (List Value)} (h : ShpL P (34 :: ts) N c b) : ∃ (s : Sl) (c' : List Value), c = slC s ++ c' ∧ ShpL P ts N c' b := by
  have h0 := shp_structH Go.Proofs.Try.underlying34 h
  have h0 : ShpL P (3 :: 3 :: 30 :: 3 :: 32 :: ts) N c b := h0
  obtain ⟨x1, c1, rfl, _, h1⟩ := shp_int1 (k := .i64) Go.Proofs.Try.underlying3 h0
  obtain ⟨x2, c2, rfl, _, h2⟩ := shp_int1 (k := .i64) Go.Proofs.Try.underlying3 h1
  obtain ⟨x3, c3, rfl, _, h3⟩ := shp_int1 (k := .u64) Go.Proofs.Try.underlying30 h2
  obtain ⟨x4, c4, rfl, _, h4⟩ := shp_int1 (k := .i64) Go.Proofs.Try.underlying3 h3
  have h5 := shp_arrayH Go.Proofs.Try.underlying32 h4
  obtain ⟨xs, c', hl, rfl, h6⟩ := shp_intsH (k := .u8) Go.Proofs.Try.underlying5 _ _ _ _ h5
  refine ⟨⟨x1, x2, x3, x4, fun i => xs.getD i 0⟩, c', ?_, h6⟩
  rw [dgC_eq xs hl]; rfl
theorem shp_table {ts : List TypeId} {N : Nat} {c : List Value} {b : List (List Value)} (h : ShpL P (37 :: ts) N c b) : ∃ (t : Tb) (c' : List Value), c = tbC t ++ c' ∧ ShpL P ts N c' b := by
  have h0 := shp_structH Go.Proofs.Try.underlying37 h
  have h0 : ShpL P (35 :: 3 :: 3 :: 30 :: ts) N c b := h0
  have h1 := shp_arrayH Go.Proofs.Try.underlying35 h0
  have h1 : ShpL P (34 :: 34 :: 3 :: 3 :: 30 :: ts) N c b := h1
  obtain ⟨a, c1, e1, h2⟩ := shp_slot h1
  obtain ⟨s, c2, e2, h3⟩ := shp_slot h2
  obtain ⟨x1, c3, e3, _, h4⟩ := shp_int1 (k := .i64) Go.Proofs.Try.underlying3 h3
  obtain ⟨x2, c4, e4, _, h5⟩ := shp_int1 (k := .i64) Go.Proofs.Try.underlying3 h4
  obtain ⟨x3, c5, e5, _, h6⟩ := shp_int1 (k := .u64) Go.Proofs.Try.underlying30 h5
  refine ⟨⟨a, s, x1, x2, x3⟩, c5, ?_, h6⟩
  rw [e1, e2, e3, e4, e5]; rfl
theorem arg_table {ts : List TypeId} {N : Nat} {av : List Value} {b : List (List Value)} (h : ArgS P (37 :: ts) N av b) : ∃ (t : Tb) (vs : List Value), av = agg (tbC t) :: vs ∧ ArgS P ts N vs b := by
  obtain ⟨cs, vs, b1, b2, rfl, rfl, h1, h2⟩ := arg_agg h (.inl ⟨_, Go.Proofs.Try.underlying37⟩)
  obtain ⟨t, c', rfl, h3⟩ := shp_table h1
  obtain ⟨rfl, rfl⟩ := shp_nil h3
  refine ⟨t, vs, ?_, by simpa using h2⟩
  rw [List.append_nil]
theorem arg_slot {ts : List TypeId} {N : Nat} {av : List Value} {b : List (List Value)} (h : ArgS P (34 :: ts) N av b) : ∃ (s : Sl) (vs : List Value), av = agg (slC s) :: vs ∧ ArgS P ts N vs b := by
  obtain ⟨cs, vs, b1, b2, rfl, rfl, h1, h2⟩ := arg_agg h (.inl ⟨_, Go.Proofs.Try.underlying34⟩)
  obtain ⟨t, c', rfl, h3⟩ := shp_slot h1
  obtain ⟨rfl, rfl⟩ := shp_nil h3
  refine ⟨t, vs, ?_, by simpa using h2⟩
  rw [List.append_nil]
end T
