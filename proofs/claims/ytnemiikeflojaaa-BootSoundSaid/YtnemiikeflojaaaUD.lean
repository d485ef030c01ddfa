/- texts of the proof, one behind the other -/
import Derived.Test.YtnemiikeflojaaaUC
set_option linter.unusedVariables false
set_option maxRecDepth 100000
namespace J
open Go Go.Ab
variable {H : Heap} {Γ : List (Nat × Blk)} {K : Value → Heap → Prop}
structure Sl where
  st : Int
  tr : Int
  ver : Int
  sz : Int
  dg : Nat → Int
structure Tb where
  a : Sl
  b : Sl
  act : Int
  boo : Int
  flo : Int
structure Ch where
  kind : Int
  slot : Int
  n : Int
  to : Sl
  ver : Int
def dgC (g : Nat → Int) : List Value := [.int .u8 (g 0), .int .u8 (g 1), .int .u8 (g 2), .int .u8 (g 3), .int .u8 (g 4), .int .u8 (g 5), .int .u8 (g 6), .int .u8 (g 7), .int .u8 (g 8), .int .u8 (g 9), .int .u8 (g 10), .int .u8 (g 11), .int .u8 (g 12), .int .u8 (g 13), .int .u8 (g 14), .int .u8 (g 15), .int .u8 (g 16), .int .u8 (g 17), .int .u8 (g 18), .int .u8 (g 19), .int .u8 (g 20), .int .u8 (g 21), .int .u8 (g 22), .int .u8 (g 23), .int .u8 (g 24), .int .u8 (g 25), .int .u8 (g 26), .int .u8 (g 27), .int .u8 (g 28), .int .u8 (g 29), .int .u8 (g 30), .int .u8 (g 31)]
def slC (s : Sl) : List Value := int s.st :: int s.tr :: .int .u64 s.ver :: int s.sz :: dgC s.dg
def chC (c : Ch) : List Value := int c.kind :: int c.slot :: int c.n :: (slC c.to ++ [.int .u64 c.ver])
def slz (st : Int) : Sl := ⟨st, 0, 0, 0, fun _ => 0⟩
theorem b26_0 (a : Int) : (buildC P 27).f [(0, int a)] = some (agg (slC (slz a))) := by kernel_rfl
theorem b24 : (buildC P 25).f [] = some (agg (dgC fun _ => 0)) := by kernel_rfl
def kD : List CK := repK 32 [.i .u8]
def kS : List CK := .i .i64 :: .i .i64 :: .i .u64 :: .i .i64 :: kD
theorem f24 : flatK P 100 25 = some kD := by kernel_rfl
theorem f26 : flatK P 100 27 = some kS := by kernel_rfl
theorem fitD (g : Nat → Int) : Fit kD (dgC g) := by
  simp only [kD, repK, dgC, Fit, fit1, List.append_nil, List.cons_append, List.nil_append, and_self, and_true]
theorem fitS (s : Sl) : Fit kS (slC s) := ⟨rfl, rfl, rfl, rfl, fitD s.dg⟩
theorem eq24 (g g' : Nat → Int) (c : Bool) : (binC P .eql 25 c).f (agg (dgC g)) (agg (dgC g')) = some (.bool (eqCells (dgC g) (dgC g'))) := bin_eql_f f24 (by kernel_rfl) (by kernel_rfl) (fitD g) (fitD g')
theorem eq26 (s s' : Sl) (c : Bool) : (binC P .eql 27 c).f (agg (slC s)) (agg (slC s')) = some (.bool (eqCells (slC s) (slC s'))) := bin_eql_f f26 (by kernel_rfl) (by kernel_rfl) (fitS s) (fitS s')
def Dz (g : Nat → Int) : Prop := eqCells (dgC g) (dgC fun _ => 0) = true
instance (g : Nat → Int) : Decidable (Dz g) := by unfold Dz; infer_instance
def SNone (s : Sl) : Prop := s.tr = 0 ∧ s.ver = 0 ∧ s.sz = 0 ∧ Dz s.dg
instance (s : Sl) : Decidable (SNone s) := by unfold SNone; infer_instance
def SImg (s : Sl) : Prop := 1 ≤ s.ver ∧ s.ver ≤ 281474976710656 ∧ 1 ≤ s.sz ∧ s.sz ≤ 65536
instance (s : Sl) : Decidable (SImg s) := by unfold SImg; infer_instance
def SRight (s : Sl) : Prop := ((s.st = 0 ∨ s.st = 1 ∨ s.st = 4) ∧ SNone s) ∨ (s.st = 2 ∧ (0 ≤ s.tr ∧ s.tr ≤ 7) ∧ SImg s) ∨ (s.st = 3 ∧ s.tr = 0 ∧ SImg s)
instance (s : Sl) : Decidable (SRight s) := by unfold SRight; infer_instance
def SFull (s : Sl) : Prop := s.st = 2 ∨ s.st = 3
instance (s : Sl) : Decidable (SFull s) := by unfold SFull; infer_instance
theorem eq_bare (s : Sl) : eqCells (slC s) (slC (slz s.st)) = decide (SNone s) := by
  show (cellEq (int s.st) (int s.st) && (cellEq (int s.tr) (int 0) && (cellEq (.int .u64 s.ver) (.int .u64 0) && (cellEq (int s.sz) (int 0) && eqCells (dgC s.dg) (dgC fun _ => 0))))) = _
  rw [Bool.eq_iff_iff, decide_eq_true_iff]
  unfold SNone Dz
  simp [cellEq]
section
variable {s : Sl}
theorem slot_Right_spec (hO : St H Γ) (hk : ∀ H', St H' Γ → K (.bool (decide (SRight s))) H') : wCall P n_slot_Right [agg (slC s)] H K := by
  apply slot_Right_ok; unfold slot_Right
  refine new_at hO ?_
  intro p H hO
  refine join_with (fun l' H' => l' = [ptr p 0] ∧ H' = H ∧ (SRight s ↔ SImg s)) ?_ ?_
  · repeat (first | refine oi ?_ | refine ow ?_ | refine wy ?_ | refine wn ?_ | refine wt ?_ | refine wf' ?_ | refine cy ?_ | refine cn ?_ | refine ld hO 0 rfl rfl ?_ | refine ld hO 1 rfl rfl ?_ | refine ld hO 2 rfl rfl ?_ | refine ld hO 3 rfl rfl ?_ | refine ld hO 4 rfl rfl ?_ | refine ld hO 5 rfl rfl ?_)
    refine join_with (fun l' H' => l' = [ptr p 0, int s.st, .bool (decide (s.st = 0 ∨ s.st = 1 ∨ s.st = 4))] ∧ H' = H) ?_ ?_
    · repeat (first | refine oi ?_ | refine ow ?_ | refine wy ?_ | refine wn ?_ | refine wt ?_ | refine wf' ?_ | refine cy ?_ | refine cn ?_ | refine ld hO 0 rfl rfl ?_ | refine ld hO 1 rfl rfl ?_ | refine ld hO 2 rfl rfl ?_ | refine ld hO 3 rfl rfl ?_ | refine ld hO 4 rfl rfl ?_ | refine ld hO 5 rfl rfl ?_)
      by_cases h : s.st = 0
      · repeat (first | refine oi ?_ | refine ow ?_ | refine wy ?_ | refine wn ?_ | refine wt ?_ | refine wf' ?_ | refine cy ?_ | refine cn ?_ | refine ld hO 0 rfl rfl ?_ | refine ld hO 1 rfl rfl ?_ | refine ld hO 2 rfl rfl ?_ | refine ld hO 3 rfl rfl ?_ | refine ld hO 4 rfl rfl ?_ | refine ld hO 5 rfl rfl ?_)
        rw [decide_eq_true h, decide_eq_true (show s.st = 0 ∨ s.st = 1 ∨ s.st = 4 by omega)]; exact ⟨rfl, rfl⟩
      · repeat (first | refine oi ?_ | refine ow ?_ | refine wy ?_ | refine wn ?_ | refine wt ?_ | refine wf' ?_ | refine cy ?_ | refine cn ?_ | refine ld hO 0 rfl rfl ?_ | refine ld hO 1 rfl rfl ?_ | refine ld hO 2 rfl rfl ?_ | refine ld hO 3 rfl rfl ?_ | refine ld hO 4 rfl rfl ?_ | refine ld hO 5 rfl rfl ?_)
        by_cases h1 : s.st = 1
        · repeat (first | refine oi ?_ | refine ow ?_ | refine wy ?_ | refine wn ?_ | refine wt ?_ | refine wf' ?_ | refine cy ?_ | refine cn ?_ | refine ld hO 0 rfl rfl ?_ | refine ld hO 1 rfl rfl ?_ | refine ld hO 2 rfl rfl ?_ | refine ld hO 3 rfl rfl ?_ | refine ld hO 4 rfl rfl ?_ | refine ld hO 5 rfl rfl ?_)
          rw [decide_eq_true h1, decide_eq_true (show s.st = 0 ∨ s.st = 1 ∨ s.st = 4 by omega)]; exact ⟨rfl, rfl⟩
        · repeat (first | refine oi ?_ | refine ow ?_ | refine wy ?_ | refine wn ?_ | refine wt ?_ | refine wf' ?_ | refine cy ?_ | refine cn ?_ | refine ld hO 0 rfl rfl ?_ | refine ld hO 1 rfl rfl ?_ | refine ld hO 2 rfl rfl ?_ | refine ld hO 3 rfl rfl ?_ | refine ld hO 4 rfl rfl ?_ | refine ld hO 5 rfl rfl ?_)
          rw [show decide (s.st = 0 ∨ s.st = 1 ∨ s.st = 4) = decide (s.st = 4) from decide_eq_decide.2 (by omega)]; exact ⟨rfl, rfl⟩
    rintro l' H' ⟨rfl, rfl⟩
    try simp only [nth_zero, nth_succ]
    refine wIf_dec (fun h => ?_) (fun h => ?_)
    · refine loadAgg_at hO (Γ.length + 0) (at_r rfl) (show _ = slC s from rfl) rfl (by omega) ?_
      repeat (first | refine oi ?_ | refine ow ?_ | refine wy ?_ | refine wn ?_ | refine wt ?_ | refine wf' ?_ | refine cy ?_ | refine cn ?_ | refine ld hO 0 rfl rfl ?_ | refine ld hO 1 rfl rfl ?_ | refine ld hO 2 rfl rfl ?_ | refine ld hO 3 rfl rfl ?_ | refine ld hO 4 rfl rfl ?_ | refine ld hO 5 rfl rfl ?_)
      refine opP_i (b26_0 _) ?_
      refine opP_i (eq26 _ _ _) ?_
      rw [eq_bare]
      rw [show decide (SRight s) = decide (SNone s) from decide_eq_decide.2 (by unfold SRight; constructor; (rintro (⟨_, h⟩ | ⟨h, _⟩ | ⟨h, _⟩); exact h; omega; omega); exact fun h2 => .inl ⟨h, h2⟩)] at hk
      exact hk _ hO.left
    · repeat (first | refine oi ?_ | refine ow ?_ | refine wy ?_ | refine wn ?_ | refine wt ?_ | refine wf' ?_ | refine cy ?_ | refine cn ?_ | refine ld hO 0 rfl rfl ?_ | refine ld hO 1 rfl rfl ?_ | refine ld hO 2 rfl rfl ?_ | refine ld hO 3 rfl rfl ?_ | refine ld hO 4 rfl rfl ?_ | refine ld hO 5 rfl rfl ?_)
      have hn : SRight s ↔ (s.st = 2 ∧ (0 ≤ s.tr ∧ s.tr ≤ 7) ∧ SImg s) ∨ (s.st = 3 ∧ s.tr = 0 ∧ SImg s) := by
        unfold SRight; constructor
        · rintro (⟨h2, _⟩ | h2)
          · exact absurd h2 h
          · exact h2
        · exact .inr
      by_cases h2 : s.st = 2
      · repeat (first | refine oi ?_ | refine ow ?_ | refine wy ?_ | refine wn ?_ | refine wt ?_ | refine wf' ?_ | refine cy ?_ | refine cn ?_ | refine ld hO 0 rfl rfl ?_ | refine ld hO 1 rfl rfl ?_ | refine ld hO 2 rfl rfl ?_ | refine ld hO 3 rfl rfl ?_ | refine ld hO 4 rfl rfl ?_ | refine ld hO 5 rfl rfl ?_)
        have hn2 : SRight s ↔ ((0 ≤ s.tr ∧ s.tr ≤ 7) ∧ SImg s) := by
          rw [hn]; constructor
          · rintro (⟨_, h⟩ | ⟨h, _⟩)
            · exact h
            · omega
          · exact fun h => .inl ⟨h2, h⟩
        by_cases h3 : s.tr < 0
        · repeat (first | refine oi ?_ | refine ow ?_ | refine wy ?_ | refine wn ?_ | refine wt ?_ | refine wf' ?_ | refine cy ?_ | refine cn ?_ | refine ld hO 0 rfl rfl ?_ | refine ld hO 1 rfl rfl ?_ | refine ld hO 2 rfl rfl ?_ | refine ld hO 3 rfl rfl ?_ | refine ld hO 4 rfl rfl ?_ | refine ld hO 5 rfl rfl ?_)
          rw [decide_eq_false (show ¬ SRight s by rw [hn2]; omega)] at hk
          exact hk _ hO.left
        · repeat (first | refine oi ?_ | refine ow ?_ | refine wy ?_ | refine wn ?_ | refine wt ?_ | refine wf' ?_ | refine cy ?_ | refine cn ?_ | refine ld hO 0 rfl rfl ?_ | refine ld hO 1 rfl rfl ?_ | refine ld hO 2 rfl rfl ?_ | refine ld hO 3 rfl rfl ?_ | refine ld hO 4 rfl rfl ?_ | refine ld hO 5 rfl rfl ?_)
          by_cases h4 : 7 < s.tr
          · repeat (first | refine oi ?_ | refine ow ?_ | refine wy ?_ | refine wn ?_ | refine wt ?_ | refine wf' ?_ | refine cy ?_ | refine cn ?_ | refine ld hO 0 rfl rfl ?_ | refine ld hO 1 rfl rfl ?_ | refine ld hO 2 rfl rfl ?_ | refine ld hO 3 rfl rfl ?_ | refine ld hO 4 rfl rfl ?_ | refine ld hO 5 rfl rfl ?_)
            rw [decide_eq_false (show ¬ SRight s by rw [hn2]; omega)] at hk
            exact hk _ hO.left
          · repeat (first | refine oi ?_ | refine ow ?_ | refine wy ?_ | refine wn ?_ | refine wt ?_ | refine wf' ?_ | refine cy ?_ | refine cn ?_ | refine ld hO 0 rfl rfl ?_ | refine ld hO 1 rfl rfl ?_ | refine ld hO 2 rfl rfl ?_ | refine ld hO 3 rfl rfl ?_ | refine ld hO 4 rfl rfl ?_ | refine ld hO 5 rfl rfl ?_)
            exact ⟨(by first | rfl | trivial), (by first | rfl | trivial), by rw [hn2]; exact ⟨fun h => h.2, fun h => ⟨by omega, h⟩⟩⟩
      · repeat (first | refine oi ?_ | refine ow ?_ | refine wy ?_ | refine wn ?_ | refine wt ?_ | refine wf' ?_ | refine cy ?_ | refine cn ?_ | refine ld hO 0 rfl rfl ?_ | refine ld hO 1 rfl rfl ?_ | refine ld hO 2 rfl rfl ?_ | refine ld hO 3 rfl rfl ?_ | refine ld hO 4 rfl rfl ?_ | refine ld hO 5 rfl rfl ?_)
        by_cases h3 : s.st = 3
        · repeat (first | refine oi ?_ | refine ow ?_ | refine wy ?_ | refine wn ?_ | refine wt ?_ | refine wf' ?_ | refine cy ?_ | refine cn ?_ | refine ld hO 0 rfl rfl ?_ | refine ld hO 1 rfl rfl ?_ | refine ld hO 2 rfl rfl ?_ | refine ld hO 3 rfl rfl ?_ | refine ld hO 4 rfl rfl ?_ | refine ld hO 5 rfl rfl ?_)
          have hn2 : SRight s ↔ (s.tr = 0 ∧ SImg s) := by
            rw [hn]; constructor
            · rintro (⟨h, _⟩ | ⟨_, h⟩)
              · omega
              · exact h
            · exact fun h => .inr ⟨h3, h⟩
          by_cases h4 : s.tr = 0
          · repeat (first | refine oi ?_ | refine ow ?_ | refine wy ?_ | refine wn ?_ | refine wt ?_ | refine wf' ?_ | refine cy ?_ | refine cn ?_ | refine ld hO 0 rfl rfl ?_ | refine ld hO 1 rfl rfl ?_ | refine ld hO 2 rfl rfl ?_ | refine ld hO 3 rfl rfl ?_ | refine ld hO 4 rfl rfl ?_ | refine ld hO 5 rfl rfl ?_)
            exact ⟨(by first | rfl | trivial), (by first | rfl | trivial), by rw [hn2]; exact ⟨fun h => h.2, fun h => ⟨by omega, h⟩⟩⟩
          · repeat (first | refine oi ?_ | refine ow ?_ | refine wy ?_ | refine wn ?_ | refine wt ?_ | refine wf' ?_ | refine cy ?_ | refine cn ?_ | refine ld hO 0 rfl rfl ?_ | refine ld hO 1 rfl rfl ?_ | refine ld hO 2 rfl rfl ?_ | refine ld hO 3 rfl rfl ?_ | refine ld hO 4 rfl rfl ?_ | refine ld hO 5 rfl rfl ?_)
            rw [decide_eq_false (show ¬ SRight s by rw [hn2]; exact fun h => h4 h.1)] at hk
            exact hk _ hO.left
        · repeat (first | refine oi ?_ | refine ow ?_ | refine wy ?_ | refine wn ?_ | refine wt ?_ | refine wf' ?_ | refine cy ?_ | refine cn ?_ | refine ld hO 0 rfl rfl ?_ | refine ld hO 1 rfl rfl ?_ | refine ld hO 2 rfl rfl ?_ | refine ld hO 3 rfl rfl ?_ | refine ld hO 4 rfl rfl ?_ | refine ld hO 5 rfl rfl ?_)
          rw [decide_eq_false (show ¬ SRight s by rw [hn]; rintro (⟨h, _⟩ | ⟨h, _⟩); exact h2 h; exact h3 h)] at hk
          exact hk _ hO.left
  rintro l' H' ⟨rfl, rfl, hR⟩
  rw [show decide (SRight s) = decide (SImg s) from decide_eq_decide.2 hR] at hk
  try simp only [nth_zero, nth_succ]
  repeat (first | refine oi ?_ | refine ow ?_ | refine wy ?_ | refine wn ?_ | refine wt ?_ | refine wf' ?_ | refine cy ?_ | refine cn ?_ | refine ld hO 0 rfl rfl ?_ | refine ld hO 1 rfl rfl ?_ | refine ld hO 2 rfl rfl ?_ | refine ld hO 3 rfl rfl ?_ | refine ld hO 4 rfl rfl ?_ | refine ld hO 5 rfl rfl ?_)
  by_cases h1 : 1 ≤ s.ver
  · repeat (first | refine oi ?_ | refine ow ?_ | refine wy ?_ | refine wn ?_ | refine wt ?_ | refine wf' ?_ | refine cy ?_ | refine cn ?_ | refine ld hO 0 rfl rfl ?_ | refine ld hO 1 rfl rfl ?_ | refine ld hO 2 rfl rfl ?_ | refine ld hO 3 rfl rfl ?_ | refine ld hO 4 rfl rfl ?_ | refine ld hO 5 rfl rfl ?_)
    by_cases h2 : s.ver ≤ 281474976710656
    · repeat (first | refine oi ?_ | refine ow ?_ | refine wy ?_ | refine wn ?_ | refine wt ?_ | refine wf' ?_ | refine cy ?_ | refine cn ?_ | refine ld hO 0 rfl rfl ?_ | refine ld hO 1 rfl rfl ?_ | refine ld hO 2 rfl rfl ?_ | refine ld hO 3 rfl rfl ?_ | refine ld hO 4 rfl rfl ?_ | refine ld hO 5 rfl rfl ?_)
      by_cases h3 : 1 ≤ s.sz
      · repeat (first | refine oi ?_ | refine ow ?_ | refine wy ?_ | refine wn ?_ | refine wt ?_ | refine wf' ?_ | refine cy ?_ | refine cn ?_ | refine ld hO 0 rfl rfl ?_ | refine ld hO 1 rfl rfl ?_ | refine ld hO 2 rfl rfl ?_ | refine ld hO 3 rfl rfl ?_ | refine ld hO 4 rfl rfl ?_ | refine ld hO 5 rfl rfl ?_)
        rw [show decide (SImg s) = decide (s.sz ≤ 65536) from decide_eq_decide.2 (by unfold SImg; omega)] at hk
        exact hk _ hO.left
      · repeat (first | refine oi ?_ | refine ow ?_ | refine wy ?_ | refine wn ?_ | refine wt ?_ | refine wf' ?_ | refine cy ?_ | refine cn ?_ | refine ld hO 0 rfl rfl ?_ | refine ld hO 1 rfl rfl ?_ | refine ld hO 2 rfl rfl ?_ | refine ld hO 3 rfl rfl ?_ | refine ld hO 4 rfl rfl ?_ | refine ld hO 5 rfl rfl ?_)
        rw [decide_eq_false (show ¬ SImg s by unfold SImg; omega)] at hk
        exact hk _ hO.left
    · repeat (first | refine oi ?_ | refine ow ?_ | refine wy ?_ | refine wn ?_ | refine wt ?_ | refine wf' ?_ | refine cy ?_ | refine cn ?_ | refine ld hO 0 rfl rfl ?_ | refine ld hO 1 rfl rfl ?_ | refine ld hO 2 rfl rfl ?_ | refine ld hO 3 rfl rfl ?_ | refine ld hO 4 rfl rfl ?_ | refine ld hO 5 rfl rfl ?_)
      rw [decide_eq_false (show ¬ SImg s by unfold SImg; omega)] at hk
      exact hk _ hO.left
  · repeat (first | refine oi ?_ | refine ow ?_ | refine wy ?_ | refine wn ?_ | refine wt ?_ | refine wf' ?_ | refine cy ?_ | refine cn ?_ | refine ld hO 0 rfl rfl ?_ | refine ld hO 1 rfl rfl ?_ | refine ld hO 2 rfl rfl ?_ | refine ld hO 3 rfl rfl ?_ | refine ld hO 4 rfl rfl ?_ | refine ld hO 5 rfl rfl ?_)
    rw [decide_eq_false (show ¬ SImg s by unfold SImg; omega)] at hk
    exact hk _ hO.left
end
variable {H : Heap} {Γ : List (Nat × Blk)} {K : Value → Heap → Prop}
section
variable {s : Sl}
end
variable {H : Heap} {Γ : List (Nat × Blk)} {K : Value → Heap → Prop}
section
variable {t : Tb}
def Tb.sl (t : Tb) (i : Int) : Sl := if i = 0 then t.a else t.b
def Ix (x : Int) : Prop := x = 0 ∨ x = 1
instance (x : Int) : Decidable (Ix x) := by unfold Ix; infer_instance
def TRight (t : Tb) : Prop := SRight t.a ∧ SRight t.b ∧ Ix t.act ∧ (t.boo = -1 ∨ Ix t.boo) ∧ t.flo ≤ 281474976710656
instance (t : Tb) : Decidable (TRight t) := by unfold TRight; infer_instance
end
variable {H : Heap} {Γ : List (Nat × Blk)} {K : Value → Heap → Prop}
section
variable {t : Tb}
def chs (l : List Ch) : List Value := l.flatMap chC
abbrev Made (Γ : List (Nat × Blk)) (K : Value → Heap → Prop) (r : List Ch × Int) : Prop := ∀ (H' : Heap) (v : Value), St H' (Γ ++ outB v (chs r.1)) → Own 40 v r.1.length (chs r.1) → K (.tuple [v, int r.2].toArray) H'
theorem Made.none {e : Int} (h : Made Γ K ([], e)) (hO : St H Γ) : K (.tuple [nilSl, int e].toArray) H := h H nilSl (by show St H (Γ ++ []); rw [List.append_nil]; exact hO) Own.nil
theorem chC_len (c : Ch) : (chC c).length = 40 := rfl
theorem chs_len : ∀ l : List Ch, (chs l).length = l.length * 40
  | [] => rfl
  | c :: l => by
    show (chC c ++ chs l).length = _
    rw [List.length_append, chC_len, chs_len l, List.length_cons]; omega
theorem chs_one (c : Ch) : chs [c] = chC c := List.append_nil _
theorem chs_two (c c' : Ch) : chs [c, c'] = chC c ++ chC c' := by show chC c ++ (chC c' ++ []) = _; rw [List.append_nil]
theorem Made.slice {L : List (Nat × Blk)} {p n : Nat} {l : List Ch} {cs : List Value} {e : Int} (h : Made Γ K (l, e)) (hc : chs l = cs) (hn : l.length = n) (hO : St H ((Γ ++ L) ++ [(p, ⟨cs, true⟩)])) (cap : Nat) (hcap : cap = 80 ∨ cap = 81) : K (.tuple [sl p 0 n cap, int e].toArray) H := by
  subst hc; subst hn
  refine h H (sl p 0 l.length cap) (St.mid hO) (.inr ⟨p, ?_, chs_len l⟩)
  rcases hcap with rfl | rfl
  · exact .inl rfl
  · exact .inr rfl
theorem Made.one {L : List (Nat × Blk)} {p : Nat} {c : Ch} {e : Int} (h : Made Γ K ([c], e)) (hO : St H ((Γ ++ L) ++ [(p, ⟨chC c, true⟩)])) : K (.tuple [sl p 0 1 81, int e].toArray) H := h.slice (chs_one c) rfl hO 81 (.inr rfl)
theorem Made.two {L : List (Nat × Blk)} {p : Nat} {c c' : Ch} {e : Int} (h : Made Γ K ([c, c'], e)) (hO : St H ((Γ ++ L) ++ [(p, ⟨chC c ++ chC c', true⟩)])) : K (.tuple [sl p 0 2 81, int e].toArray) H := h.slice (chs_two c c') rfl hO 81 (.inr rfl)
end
variable {H : Heap} {Γ : List (Nat × Blk)} {K : Value → Heap → Prop}
section
variable {t : Tb}
end
variable {H : Heap} {Γ : List (Nat × Blk)} {K : Value → Heap → Prop}
section
variable {t : Tb}
theorem Made.app {L : List (Nat × Blk)} {v : Value} {l : List Ch} {e : Int} (h : Made Γ K (l, e)) (hO : St H ((Γ ++ L) ++ outB v (chs l))) (hv : Own 40 v l.length (chs l)) : K (.tuple [v, int e].toArray) H := h H v (St.mid hO) hv
end
variable {H : Heap} {Γ : List (Nat × Blk)} {K : Value → Heap → Prop}
section
variable {t : Tb}
theorem TRight.sl {i : Int} (h : TRight t) : SRight (t.sl i) := by unfold Tb.sl; split; exact h.1; exact h.2.1
end
variable {H : Heap} {Γ : List (Nat × Blk)} {K : Value → Heap → Prop}
section
variable {t : Tb}
def RdC (Γ : List (Nat × Blk)) (v : Value) (l : List Ch) : Prop :=
  lenSl v = (fun H => some (int l.length, H)) ∧ (l = [] ∨ ∃ (p c j : Nat), v = sl p 0 l.length c ∧ ∃ w : Bool, Γ[j]? = some (p, (⟨chs l, w⟩ : Blk)))
theorem RdC.app {Γ Δ : List (Nat × Blk)} {v : Value} {l : List Ch} (h : RdC Γ v l) : RdC (Γ ++ Δ) v l := by
  refine ⟨h.1, ?_⟩
  rcases h.2 with h | ⟨p, c, j, h1, w, h2⟩
  · exact .inl h
  · exact .inr ⟨p, c, j, h1, w, at_l h2⟩
theorem RdC.app' {Γ Δ : List (Nat × Blk)} {v : Value} {l : List Ch} (h : RdC Δ v l) : RdC (Γ ++ Δ) v l := by
  refine ⟨h.1, ?_⟩
  rcases h.2 with h | ⟨p, c, j, h1, w, h2⟩
  · exact .inl h
  · exact .inr ⟨p, c, _, h1, w, at_r h2⟩
theorem RdC.own {v : Value} {l : List Ch} (h : Own 40 v l.length (chs l)) : RdC (outB v (chs l)) v l := by
  refine ⟨funext fun H => h.lenSl, ?_⟩
  rcases h with ⟨rfl, h, _⟩ | ⟨p, rfl | rfl, _⟩
  · exact .inl (List.length_eq_zero_iff.1 h)
  · exact .inr ⟨p, _, 0, rfl, true, rfl⟩
  · exact .inr ⟨p, _, 0, rfl, true, rfl⟩
end
variable {H : Heap} {Γ : List (Nat × Blk)} {K : Value → Heap → Prop}
section
variable {t : Tb} {c : Ch}
def SEq (s s' : Sl) : Prop := eqCells (slC s) (slC s') = true
instance (s s' : Sl) : Decidable (SEq s s') := by unfold SEq; infer_instance
theorem SEq.rfl' (s : Sl) : SEq s s := eqCells_self (fitS s)
def SZ (s : Sl) : Prop := SEq (slz 0) s
instance (s : Sl) : Decidable (SZ s) := by unfold SZ; infer_instance
def CRight (c : Ch) : Prop :=
  (c.kind = 1 ∧ (Ix c.slot ∧ SRight c.to) ∧ c.n = 0 ∧ c.ver = 0) ∨
  (c.kind = 2 ∧ Ix c.n ∧ c.slot = 0 ∧ SZ c.to ∧ c.ver = 0) ∨
  (c.kind = 3 ∧ (c.n = -1 ∨ Ix c.n) ∧ c.slot = 0 ∧ SZ c.to ∧ c.ver = 0) ∨
  (c.kind = 4 ∧ c.ver ≤ 281474976710656 ∧ c.slot = 0 ∧ c.n = 0 ∧ SZ c.to)
instance (c : Ch) : Decidable (CRight c) := by unfold CRight; infer_instance
end
variable {H : Heap} {Γ : List (Nat × Blk)} {K : Value → Heap → Prop}
section
variable {t : Tb} {c : Ch}
end
variable {H : Heap} {Γ : List (Nat × Blk)} {K : Value → Heap → Prop}
section
variable {t : Tb} {l : List Ch}
def TOk (l : List Ch) : Prop := l.length ≤ 8 ∧ ∀ c ∈ l, CRight c
instance (l : List Ch) : Decidable (TOk l) := by unfold TOk; infer_instance
def Tb.put (t : Tb) (i : Int) (s : Sl) : Tb := if i = 0 then { t with a := s } else { t with b := s }
def ap1 (t : Tb) (c : Ch) : Option Tb :=
  if c.kind = 1 then some (t.put c.slot c.to) else if c.kind = 2 then some { t with act := c.n } else if c.kind = 3 then some { t with boo := c.n }
  else if c.ver < t.flo then none else some { t with flo := c.ver }
def apL : Tb → List Ch → Option Tb
  | t, [] => some t
  | t, c :: l => match ap1 t c with
    | some t' => apL t' l
    | none => none
end
variable {H : Heap} {Γ : List (Nat × Blk)} {K : Value → Heap → Prop}
structure Sd where
  kind : Int
  i : Int
  s : Sl
section
variable {t : Tb} {a : Sd}
theorem Tb.put_flo {i : Int} {s : Sl} : (t.put i s).flo = t.flo := by unfold Tb.put; split <;> rfl
theorem TRight.put {i : Int} {s : Sl} (h : TRight t) (hs : SRight s) : TRight (t.put i s) := by
  unfold TRight Tb.put at *
  split
  · exact ⟨hs, h.2⟩
  · exact ⟨h.1, hs, h.2.2⟩
def Goes (t : Tb) (c : Ch) : Prop := CRight c ∧ (c.kind = 4 → t.flo ≤ c.ver)
theorem ap1_ok {c : Ch} (h : TRight t) (hc : Goes t c) : ∃ t', ap1 t c = some t' ∧ TRight t' ∧ t.flo ≤ t'.flo := by
  obtain ⟨hc, hf⟩ := hc
  unfold ap1
  by_cases h1 : c.kind = 1
  · rw [if_pos h1]
    refine ⟨_, rfl, h.put ?_, by rw [Tb.put_flo]; omega⟩
    rcases hc with h | h | h | h
    · exact h.2.1.2
    all_goals omega
  rw [if_neg h1]
  by_cases h2 : c.kind = 2
  · rw [if_pos h2]
    refine ⟨_, rfl, ⟨h.1, h.2.1, ?_, h.2.2.2⟩, by show t.flo ≤ t.flo; omega⟩
    rcases hc with h | h | h | h
    · omega
    · exact h.2.1
    all_goals omega
  rw [if_neg h2]
  by_cases h3 : c.kind = 3
  · rw [if_pos h3]
    refine ⟨_, rfl, ⟨h.1, h.2.1, h.2.2.1, ?_, h.2.2.2.2⟩, by show t.flo ≤ t.flo; omega⟩
    rcases hc with h | h | h | h
    · omega
    · omega
    · exact h.2.1
    · omega
  rw [if_neg h3]
  have h4 : c.kind = 4 := by rcases hc with h | h | h | h <;> omega
  have := hf h4
  rw [if_neg (by omega)]
  refine ⟨_, rfl, ⟨h.1, h.2.1, h.2.2.1, h.2.2.2.1, ?_⟩, by show t.flo ≤ c.ver; omega⟩
  rcases hc with h | h | h | h
  · omega
  · omega
  · omega
  · exact h.2.1
def Goal (t : Tb) (l : List Ch) (Q : Tb → Prop) : Prop := TOk l ∧ ∃ t', apL t l = some t' ∧ TRight t' ∧ t.flo ≤ t'.flo ∧ Q t'
theorem Goal.nil {Q : Tb → Prop} (h : TRight t) (hq : Q t) : Goal t [] Q := ⟨⟨by simp, by simp⟩, t, rfl, h, by omega, hq⟩
theorem Goal.cons {Q : Tb → Prop} {c : Ch} {l : List Ch} (h : TRight t) (hc : Goes t c) (hl : l.length ≤ 7) (hn : ∀ t', ap1 t c = some t' → TRight t' → t.flo ≤ t'.flo → Goal t' l Q) : Goal t (c :: l) Q := by
  obtain ⟨t1, e1, r1, f1⟩ := ap1_ok h hc
  obtain ⟨ho, t2, e2, r2, f2, hq⟩ := hn t1 e1 r1 f1
  refine ⟨⟨by simp; omega, ?_⟩, t2, ?_, r2, by omega, hq⟩
  · intro c' h'
    rcases List.mem_cons.1 h' with rfl | h'
    · exact hc.1
    · exact ho.2 _ h'
  · show (match ap1 t c with | some t' => apL t' l | none => none) = some t2
    rw [e1]; exact e2
def G3 (t : Tb) : Prop := t.a.st = 3 ∨ t.b.st = 3
theorem G3.put {i : Int} {s : Sl} (h : G3 t) (hi : Ix i) (hn : s.st = 3 ∨ (t.sl i).st ≠ 3 ∨ (t.sl (1 - i)).st = 3) : G3 (t.put i s) := by
  unfold G3 Tb.put Tb.sl at *
  rcases hi with rfl | rfl
  · simp at *; omega
  · simp at *; omega
end
end J
set_option linter.unusedVariables false
set_option linter.unusedSimpArgs false
set_option maxRecDepth 100000
namespace J
open Go Go.Ab
variable {H : Heap} {Γ Γ0 Γ2 Δ G : List (Nat × Blk)} {K : Value → Heap → Prop} {v w x : Value} {xs ys zs bs b : List Int} {j p pd pz : Nat} {e : Int} {cs : List Value} {L : Mloc} {m : Mp} {part pos : Int}
def Mp.upto (m : Mp) (part : Int) (n : Nat) : List Int := (List.range n).flatMap fun (i : Nat) => (m.read part i).1
def Mp.all (m : Mp) (part : Int) : List Int := m.upto part (m.size part)
theorem Mp.upto_succ {n : Nat} : m.upto part (n + 1) = m.upto part n ++ (m.read part n).1 := by
  unfold Mp.upto
  rw [List.range_succ, List.flatMap_append, List.flatMap_cons, List.flatMap_nil, List.append_nil]
theorem Mp.upto_len (ok : m.Ok) : ∀ n, (m.upto part n).length = 64 * n
  | 0 => rfl
  | n + 1 => by rw [Mp.upto_succ, List.length_append, Mp.upto_len ok n, Mp.read_len ok]; omega
theorem Mp.size_le (ok : m.Ok) : m.size part ≤ 4096 := by
  unfold Mp.size
  split
  · rename_i h
    have h1 := ok.s _ (Mp.span_mem h)
    have h2 := ok.d.n
    omega
  · omega
theorem mAll_spec (ok : m.Ok) (hO : St H (Γ ++ MW L m)) (hk : ∀ H' v cs, St H' ((Γ ++ MW L m) ++ outB v cs) → OwnB v (m.all part) cs → K v H') : wCall P n_part_Map_All [ptr L.pm 0, int part] H K := by
  apply part_Map_All_ok; unfold part_Map_All
  have hsz := Mp.size_le ok (part := part)
  refine mSize_spec hO ?_
  refine part_Map_All_L0_ind (fun k l' H' => ∃ (y : Nat) (v : Value) (cs : List Value), y ≤ m.size part ∧ k = m.size part - y ∧ l' = [ptr L.pm 0, int part, nilSl, v, int (m.size part), int y] ∧ St H' ((Γ ++ MW L m) ++ outB v cs) ∧ OwnB v (m.upto part y) cs) _ _ ?_ (m.size part) _ _ ⟨0, nilSl, [], by omega, rfl, rfl, by rw [show outB nilSl [] = [] from rfl, List.append_nil]; exact hO, .nil⟩
  clear hO
  rintro k l' H ⟨y, v, cs, hy, rfl, rfl, hO, hv⟩
  unfold part_Map_All_L0
  try simp only [nth_zero, nth_succ]
  refine opP_i bin_lss ?_
  refine wIf_dec (fun h => ?_) (fun h => ?_)
  · have hyl : y < m.size part := by omega
    refine mRead_spec ok hO.rot ?_
    clear hO
    intro H hO
    have hrl := Mp.read_len ok (part := part) (pos := y)
    refine opP_i ext0 ?_
    refine opP_i ext1 ?_
    rw [zcS]
    refine new_at hO ?_
    clear hO
    intro p7 H hO
    replace hO : St H (((Γ ++ MW L m) ++ [(p7, ⟨by8 zeros, true⟩)]) ++ outB v cs) := hO.perm (by classical exact List.perm_iff_count.2 fun _ => by simp only [List.count_append, List.count_nil, List.set_cons_zero]; omega)
    refine storeAll_at hO ((Γ ++ MW L m).length + 0) (at_l (at_r rfl)) (by rw [by8_len]; rfl) (by rw [by8_len]; exact hrl) (by8_one _) ?_
    clear hO
    intro H hO
    rw [List.set_append_left _ _ (by simp), Go.Ab.set_r] at hO
    replace hO : St H (((Γ ++ MW L m) ++ [(p7, ⟨by8 (m.read part y).1, true⟩)]) ++ outB v cs) := hO
    refine opP_i (slice_arr hO ((Γ ++ MW L m).length + 0) (at_l (at_r rfl)) (by omega) (by show 0 + 64 ≤ (by8 (m.read part y).1).length; rw [by8_len, hrl]; exact Nat.le_refl 64)) ?_
    have hrd : RdB ((Γ ++ MW L m) ++ [(p7, (⟨by8 (m.read part y).1, true⟩ : Blk))]) (sl p7 0 64 3) (m.read part y).1 := .inr ⟨p7, 0, 3, by rw [hrl], .inr rfl, .inr ⟨(Γ ++ MW L m).length + 0, _, at_r rfl, by
      rw [List.drop_zero, List.take_of_length_le (by show (by8 _).length ≤ _; rw [by8_len]; exact Nat.le_refl _)]⟩⟩
    refine append_by hO hv hrd (by rw [Mp.upto_len ok, hrl]; omega) ?_
    clear hO
    intro H v2 cs2 hO hv2
    rw [← Mp.upto_succ] at hv2
    repeat (first | refine oi ?_ | refine ow ?_ | refine wy ?_ | refine wn ?_ | refine wt ?_ | refine wf' ?_ | refine cy ?_ | refine cn ?_)
    exact ⟨m.size part - (y + 1), by omega, y + 1, v2, cs2, by omega, rfl, rfl, St.mid hO, hv2⟩
  · have hyl : y = m.size part := by omega
    subst hyl
    refine cond_yes rfl ?_
    exact hk H v cs hO hv
end J
set_option linter.unusedVariables false
set_option linter.unusedSimpArgs false
set_option maxRecDepth 100000
namespace J
open Go Go.Ab
variable {H : Heap} {Γ Γ0 Γ2 Δ G : List (Nat × Blk)} {K : Value → Heap → Prop} {v w x : Value} {xs ys zs bs b : List Int} {j p pd pz : Nat} {e : Int} {cs : List Value} {L : Mloc} {m : Mp} {part pos : Int} {s : Sl}
def dgL (l : List Int) : Nat → Int := fun i => l.getD i 0
theorem sha_dg : by8 (sha xs) = dgC (dgL (sha xs)) := rfl
def SSound (all : List Int) (s : Sl) : Prop := SRight s ∧ SFull s ∧ s.sz ≤ all.length ∧ eqCells (dgC (dgL (sha (all.take s.sz.toNat)))) (dgC s.dg) = true
instance (all : List Int) (s : Sl) : Decidable (SSound all s) := by unfold SSound; infer_instance
theorem slC_simple (s : Sl) : (slC s).all simpleB = true := rfl
theorem full_img (h : SRight s) (hf : SFull s) : SImg s := by
  rcases h with ⟨h, _⟩ | ⟨_, _, h⟩ | ⟨_, _, h⟩
  · unfold SFull at hf; omega
  · exact h
  · exact h
set_option maxHeartbeats 1000000 in
theorem bootSound_spec (ok : m.Ok) (hb : ∀ x ∈ m.all part, 0 ≤ x ∧ x ≤ 255) (hO : St H (Γ ++ MW L m)) (hk : ∀ H', St H' (Γ ++ MW L m) → K (.bool (decide (SSound (m.all part) s))) H') : wCall P n_boot_Sound [ptr L.pm 0, int part, agg (slC s)] H K := by
  apply boot_Sound_ok; unfold boot_Sound
  refine new_at hO ?_
  clear hO
  intro p5 H hO
  replace hO := hO.rot
  replace hO : St H ((Γ ++ [(p5, (⟨slC s, true⟩ : Blk))]) ++ MW L m) := hO
  have i5 : ∀ {R : List (Nat × Blk)}, ((Γ ++ [(p5, (⟨slC s, true⟩ : Blk))]) ++ R)[Γ.length + 0]? = some (p5, ⟨slC s, true⟩) := at_l (at_r rfl)
  refine join_with (fun l' H' => l' = [ptr L.pm 0, int part, ptr p5 0] ∧ (SRight s ∧ SFull s) ∧ St H' ((Γ ++ [(p5, (⟨slC s, true⟩ : Blk))]) ++ MW L m)) ?_ ?_
  · refine loadAgg_at hO _ i5 (show _ = slC s from rfl) rfl (by omega) ?_
    refine slot_Right_spec hO ?_
    clear hO
    intro H hO
    refine opP_i un_not ?_
    by_cases hr : SRight s
    · have e1 : (!decide (SRight s)) = false := by rw [decide_eq_true hr]; rfl
      rw [e1]
      refine wIf_f rfl ?_
      refine opP_i offPtr_ptr ?_
      refine load_at hO _ i5 (v := int s.st) rfl ?_
      refine opP_i bin_neq ?_
      refine wIf_dec (fun h2 => ?_) (fun h2 => ?_)
      · refine opP_i offPtr_ptr ?_
        refine load_at hO _ i5 (v := int s.st) rfl ?_
        refine opP_i bin_neq ?_
        refine opP_i (pick_yes h2) ?_
        refine opP_i pick_false ?_
        refine wIf_dec (fun h3 => ?_) (fun h3 => ?_)
        · have hn : ¬ SSound (m.all part) s := fun h => by rcases h.2.1 with h | h; exact h2 h; exact h3 h
          have := hk H (St.mid hO)
          rw [decide_eq_false hn] at this; exact this
        · exact ⟨rfl, ⟨hr, .inr (by omega)⟩, hO⟩
      · refine opP_i (pick_no h2) ?_
        refine opP_i pick_false ?_
        refine wIf_f rfl ?_
        exact ⟨rfl, ⟨hr, .inl (by omega)⟩, hO⟩
    · have e1 : (!decide (SRight s)) = true := by rw [decide_eq_false hr]; rfl
      rw [e1]
      refine wIf_t rfl ?_
      refine opP_i pick_true ?_
      refine wIf_t rfl ?_
      have := hk H (St.mid hO)
      rw [decide_eq_false (fun h => hr h.1)] at this; exact this
  clear hO
  rintro l' H ⟨rfl, ⟨hr, hf⟩, hO⟩
  try simp only [nth_zero, nth_succ]
  obtain ⟨-, -, h1, h2⟩ := full_img hr hf
  obtain ⟨n, hn⟩ : ∃ n : Nat, s.sz = n := ⟨s.sz.toNat, by omega⟩
  refine mAll_spec ok hO ?_
  clear hO
  intro H v cs hO hv
  refine opW_i hv.lenSl ?_
  refine opP_i offPtr_ptr ?_
  refine load_at hO _ (at_l i5) (v := int s.sz) rfl ?_
  refine opP_i bin_geq ?_
  refine wIf_dec (fun h => ?_) (fun h => ?_)
  · refine opP_i offPtr_ptr ?_
    refine load_at hO _ (at_l i5) (v := int s.sz) rfl ?_
    obtain ⟨v2, e2, ih⟩ := slice_hi (n := n) hv.rd (by omega)
    rw [hn]
    refine opP_i e2 ?_
    have hrd : RdB (((Γ ++ [(p5, (⟨slC s, true⟩ : Blk))]) ++ MW L m) ++ outB v cs) v2 ((m.all part).take n) := (ih _ hv.rd).app'
    obtain ⟨a3, n3, c3, e3⟩ := hrd.shape
    rw [e3]
    refine newSl_at hO (bsP1 _ _ _ _) ?_
    rw [← e3]
    intro q H2 hO2
    refine sum1_spec hO2 (j := _ + 0) (at_r rfl) hrd.app (fun x hx => hb x (List.mem_of_mem_take hx)) (by
      rw [List.length_take]
      have := Mp.upto_len ok (part := part) (m.size part)
      have := Mp.size_le ok (part := part)
      have e : (m.all part).length = (m.upto part (m.size part)).length := rfl
      omega) ?_
    intro H3 hO3
    have i5b : ∀ {A B : List (Nat × Blk)}, (((((Γ ++ [(p5, (⟨slC s, true⟩ : Blk))]) ++ MW L m) ++ A) ++ B))[Γ.length + 0]? = some (p5, ⟨slC s, true⟩) := at_l (at_l i5)
    have lt5 : p5 < H.next := hO.lt _ (List.mem_of_getElem? (at_l i5))
    refine opP_i offPtr_ptr ?_
    refine loadAgg_at hO3 _ i5b (show _ = dgC s.dg from rfl) rfl (by omega) ?_
    refine ⟨same_at hO2 _ i5b hO3 _ i5b (slC_simple s), outp' lt5, ?_⟩
    rw [sha_dg]
    refine opP_i (eq24 _ _ _) ?_
    refine opP_i (pick_yes (by omega)) ?_
    have := hk H3 (St.mid hO3.left.left)
    rw [show decide (SSound (m.all part) s) = eqCells (dgC (dgL (sha ((m.all part).take n)))) (dgC s.dg) by
      rw [Bool.eq_iff_iff, decide_eq_true_iff]
      unfold SSound
      rw [hn, Int.toNat_natCast]
      constructor
      · exact fun h => h.2.2.2
      · exact fun h' => ⟨hr, hf, by omega, h'⟩] at this
    exact this
  · refine opP_i (pick_no h) ?_
    have hn : ¬ SSound (m.all part) s := fun h' => h h'.2.2.1
    have := hk H (St.mid hO.left)
    rw [decide_eq_false hn] at this; exact this
end J
