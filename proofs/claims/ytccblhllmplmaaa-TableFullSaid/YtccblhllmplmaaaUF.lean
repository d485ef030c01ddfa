/- texts of the proof, one behind the other -/
import Derived.Test.YtccblhllmplmaaaUE
set_option linter.unusedVariables false
set_option maxRecDepth 100000
namespace J
open Go Go.Ab
variable {H : Heap} {Γ : List (Nat × Blk)} {K : Value → Heap → Prop}
structure Sl where
  st : Int
  tr : Int
  ver : Int
  sz : Int
  dg : Nat → Int
structure Tb where
  a : Sl
  b : Sl
  act : Int
  boo : Int
  flo : Int
structure Ch where
  kind : Int
  slot : Int
  n : Int
  to : Sl
  ver : Int
def dgC (g : Nat → Int) : List Value := [.int .u8 (g 0), .int .u8 (g 1), .int .u8 (g 2), .int .u8 (g 3), .int .u8 (g 4), .int .u8 (g 5), .int .u8 (g 6), .int .u8 (g 7), .int .u8 (g 8), .int .u8 (g 9), .int .u8 (g 10), .int .u8 (g 11), .int .u8 (g 12), .int .u8 (g 13), .int .u8 (g 14), .int .u8 (g 15), .int .u8 (g 16), .int .u8 (g 17), .int .u8 (g 18), .int .u8 (g 19), .int .u8 (g 20), .int .u8 (g 21), .int .u8 (g 22), .int .u8 (g 23), .int .u8 (g 24), .int .u8 (g 25), .int .u8 (g 26), .int .u8 (g 27), .int .u8 (g 28), .int .u8 (g 29), .int .u8 (g 30), .int .u8 (g 31)]
def slC (s : Sl) : List Value := int s.st :: int s.tr :: .int .u64 s.ver :: int s.sz :: dgC s.dg
def tbC (t : Tb) : List Value := slC t.a ++ (slC t.b ++ [int t.act, int t.boo, .int .u64 t.flo])
def chC (c : Ch) : List Value := int c.kind :: int c.slot :: int c.n :: (slC c.to ++ [.int .u64 c.ver])
def slz (st : Int) : Sl := ⟨st, 0, 0, 0, fun _ => 0⟩
theorem u3 : P.underlying 3 = some (.int .i64) := by kernel_rfl
theorem u4 : P.underlying 4 = some .bool := by kernel_rfl
theorem zc26 : zc P 34 = slC (slz 0) := by kernel_rfl
theorem zc58 : zc P 41 = chC ⟨0, 0, 0, slz 0, 0⟩ := by kernel_rfl
theorem b26 : (buildC P 34).f [] = some (agg (slC (slz 0))) := by kernel_rfl
theorem b26_0 (a : Int) : (buildC P 34).f [(0, int a)] = some (agg (slC (slz a))) := by kernel_rfl
def kD : List CK := repK 32 [.i .u8]
def kS : List CK := .i .i64 :: .i .i64 :: .i .u64 :: .i .i64 :: kD
def kC : List CK := .i .i64 :: .i .i64 :: .i .i64 :: (kS ++ [.i .u64])
theorem f26 : flatK P 100 34 = some kS := by kernel_rfl
theorem f58 : flatK P 100 41 = some kC := by kernel_rfl
theorem fitD (g : Nat → Int) : Fit kD (dgC g) := by
  simp only [kD, repK, dgC, Fit, fit1, List.append_nil, List.cons_append, List.nil_append, and_self, and_true]
theorem fitS (s : Sl) : Fit kS (slC s) := ⟨rfl, rfl, rfl, rfl, fitD s.dg⟩
theorem eq26 (s s' : Sl) (c : Bool) : (binC P .eql 34 c).f (agg (slC s)) (agg (slC s')) = some (.bool (eqCells (slC s) (slC s'))) := bin_eql_f f26 (by kernel_rfl) (by kernel_rfl) (fitS s) (fitS s')
def Dz (g : Nat → Int) : Prop := eqCells (dgC g) (dgC fun _ => 0) = true
instance (g : Nat → Int) : Decidable (Dz g) := by unfold Dz; infer_instance
def SNone (s : Sl) : Prop := s.tr = 0 ∧ s.ver = 0 ∧ s.sz = 0 ∧ Dz s.dg
instance (s : Sl) : Decidable (SNone s) := by unfold SNone; infer_instance
def SImg (s : Sl) : Prop := 1 ≤ s.ver ∧ s.ver ≤ 281474976710656 ∧ 1 ≤ s.sz ∧ s.sz ≤ 65536
instance (s : Sl) : Decidable (SImg s) := by unfold SImg; infer_instance
def SRight (s : Sl) : Prop := ((s.st = 0 ∨ s.st = 1 ∨ s.st = 4) ∧ SNone s) ∨ (s.st = 2 ∧ (0 ≤ s.tr ∧ s.tr ≤ 7) ∧ SImg s) ∨ (s.st = 3 ∧ s.tr = 0 ∧ SImg s)
instance (s : Sl) : Decidable (SRight s) := by unfold SRight; infer_instance
theorem eq_bare (s : Sl) : eqCells (slC s) (slC (slz s.st)) = decide (SNone s) := by
  show (cellEq (int s.st) (int s.st) && (cellEq (int s.tr) (int 0) && (cellEq (.int .u64 s.ver) (.int .u64 0) && (cellEq (int s.sz) (int 0) && eqCells (dgC s.dg) (dgC fun _ => 0))))) = _
  rw [Bool.eq_iff_iff, decide_eq_true_iff]
  unfold SNone Dz
  simp [cellEq]
section
variable {s : Sl}
theorem slot_Right_spec (hO : St H Γ) (hk : ∀ H', St H' Γ → K (.bool (decide (SRight s))) H') : wCall P n_slot_Right [agg (slC s)] H K := by
  apply slot_Right_ok; unfold slot_Right
  refine new_at hO ?_
  intro p H hO
  refine join_with (fun l' H' => l' = [ptr p 0] ∧ H' = H ∧ (SRight s ↔ SImg s)) ?_ ?_
  · repeat (first | refine oi ?_ | refine ow ?_ | refine wy ?_ | refine wn ?_ | refine wt ?_ | refine wf' ?_ | refine cy ?_ | refine cn ?_ | refine ld hO 0 rfl rfl ?_ | refine ld hO 1 rfl rfl ?_ | refine ld hO 2 rfl rfl ?_ | refine ld hO 3 rfl rfl ?_ | refine ld hO 4 rfl rfl ?_ | refine ld hO 5 rfl rfl ?_)
    refine join_with (fun l' H' => l' = [ptr p 0, int s.st, .bool (decide (s.st = 0 ∨ s.st = 1 ∨ s.st = 4))] ∧ H' = H) ?_ ?_
    · repeat (first | refine oi ?_ | refine ow ?_ | refine wy ?_ | refine wn ?_ | refine wt ?_ | refine wf' ?_ | refine cy ?_ | refine cn ?_ | refine ld hO 0 rfl rfl ?_ | refine ld hO 1 rfl rfl ?_ | refine ld hO 2 rfl rfl ?_ | refine ld hO 3 rfl rfl ?_ | refine ld hO 4 rfl rfl ?_ | refine ld hO 5 rfl rfl ?_)
      by_cases h : s.st = 0
      · repeat (first | refine oi ?_ | refine ow ?_ | refine wy ?_ | refine wn ?_ | refine wt ?_ | refine wf' ?_ | refine cy ?_ | refine cn ?_ | refine ld hO 0 rfl rfl ?_ | refine ld hO 1 rfl rfl ?_ | refine ld hO 2 rfl rfl ?_ | refine ld hO 3 rfl rfl ?_ | refine ld hO 4 rfl rfl ?_ | refine ld hO 5 rfl rfl ?_)
        rw [decide_eq_true h, decide_eq_true (show s.st = 0 ∨ s.st = 1 ∨ s.st = 4 by omega)]; exact ⟨rfl, rfl⟩
      · repeat (first | refine oi ?_ | refine ow ?_ | refine wy ?_ | refine wn ?_ | refine wt ?_ | refine wf' ?_ | refine cy ?_ | refine cn ?_ | refine ld hO 0 rfl rfl ?_ | refine ld hO 1 rfl rfl ?_ | refine ld hO 2 rfl rfl ?_ | refine ld hO 3 rfl rfl ?_ | refine ld hO 4 rfl rfl ?_ | refine ld hO 5 rfl rfl ?_)
        by_cases h1 : s.st = 1
        · repeat (first | refine oi ?_ | refine ow ?_ | refine wy ?_ | refine wn ?_ | refine wt ?_ | refine wf' ?_ | refine cy ?_ | refine cn ?_ | refine ld hO 0 rfl rfl ?_ | refine ld hO 1 rfl rfl ?_ | refine ld hO 2 rfl rfl ?_ | refine ld hO 3 rfl rfl ?_ | refine ld hO 4 rfl rfl ?_ | refine ld hO 5 rfl rfl ?_)
          rw [decide_eq_true h1, decide_eq_true (show s.st = 0 ∨ s.st = 1 ∨ s.st = 4 by omega)]; exact ⟨rfl, rfl⟩
        · repeat (first | refine oi ?_ | refine ow ?_ | refine wy ?_ | refine wn ?_ | refine wt ?_ | refine wf' ?_ | refine cy ?_ | refine cn ?_ | refine ld hO 0 rfl rfl ?_ | refine ld hO 1 rfl rfl ?_ | refine ld hO 2 rfl rfl ?_ | refine ld hO 3 rfl rfl ?_ | refine ld hO 4 rfl rfl ?_ | refine ld hO 5 rfl rfl ?_)
          rw [show decide (s.st = 0 ∨ s.st = 1 ∨ s.st = 4) = decide (s.st = 4) from decide_eq_decide.2 (by omega)]; exact ⟨rfl, rfl⟩
    rintro l' H' ⟨rfl, rfl⟩
    try simp only [nth_zero, nth_succ]
    refine wIf_dec (fun h => ?_) (fun h => ?_)
    · refine loadAgg_at hO (Γ.length + 0) (at_r rfl) (show _ = slC s from rfl) rfl (by omega) ?_
      repeat (first | refine oi ?_ | refine ow ?_ | refine wy ?_ | refine wn ?_ | refine wt ?_ | refine wf' ?_ | refine cy ?_ | refine cn ?_ | refine ld hO 0 rfl rfl ?_ | refine ld hO 1 rfl rfl ?_ | refine ld hO 2 rfl rfl ?_ | refine ld hO 3 rfl rfl ?_ | refine ld hO 4 rfl rfl ?_ | refine ld hO 5 rfl rfl ?_)
      refine opP_i (b26_0 _) ?_
      refine opP_i (eq26 _ _ _) ?_
      rw [eq_bare]
      rw [show decide (SRight s) = decide (SNone s) from decide_eq_decide.2 (by unfold SRight; constructor; (rintro (⟨_, h⟩ | ⟨h, _⟩ | ⟨h, _⟩); exact h; omega; omega); exact fun h2 => .inl ⟨h, h2⟩)] at hk
      exact hk _ hO.left
    · repeat (first | refine oi ?_ | refine ow ?_ | refine wy ?_ | refine wn ?_ | refine wt ?_ | refine wf' ?_ | refine cy ?_ | refine cn ?_ | refine ld hO 0 rfl rfl ?_ | refine ld hO 1 rfl rfl ?_ | refine ld hO 2 rfl rfl ?_ | refine ld hO 3 rfl rfl ?_ | refine ld hO 4 rfl rfl ?_ | refine ld hO 5 rfl rfl ?_)
      have hn : SRight s ↔ (s.st = 2 ∧ (0 ≤ s.tr ∧ s.tr ≤ 7) ∧ SImg s) ∨ (s.st = 3 ∧ s.tr = 0 ∧ SImg s) := by
        unfold SRight; constructor
        · rintro (⟨h2, _⟩ | h2)
          · exact absurd h2 h
          · exact h2
        · exact .inr
      by_cases h2 : s.st = 2
      · repeat (first | refine oi ?_ | refine ow ?_ | refine wy ?_ | refine wn ?_ | refine wt ?_ | refine wf' ?_ | refine cy ?_ | refine cn ?_ | refine ld hO 0 rfl rfl ?_ | refine ld hO 1 rfl rfl ?_ | refine ld hO 2 rfl rfl ?_ | refine ld hO 3 rfl rfl ?_ | refine ld hO 4 rfl rfl ?_ | refine ld hO 5 rfl rfl ?_)
        have hn2 : SRight s ↔ ((0 ≤ s.tr ∧ s.tr ≤ 7) ∧ SImg s) := by
          rw [hn]; constructor
          · rintro (⟨_, h⟩ | ⟨h, _⟩)
            · exact h
            · omega
          · exact fun h => .inl ⟨h2, h⟩
        by_cases h3 : s.tr < 0
        · repeat (first | refine oi ?_ | refine ow ?_ | refine wy ?_ | refine wn ?_ | refine wt ?_ | refine wf' ?_ | refine cy ?_ | refine cn ?_ | refine ld hO 0 rfl rfl ?_ | refine ld hO 1 rfl rfl ?_ | refine ld hO 2 rfl rfl ?_ | refine ld hO 3 rfl rfl ?_ | refine ld hO 4 rfl rfl ?_ | refine ld hO 5 rfl rfl ?_)
          rw [decide_eq_false (show ¬ SRight s by rw [hn2]; omega)] at hk
          exact hk _ hO.left
        · repeat (first | refine oi ?_ | refine ow ?_ | refine wy ?_ | refine wn ?_ | refine wt ?_ | refine wf' ?_ | refine cy ?_ | refine cn ?_ | refine ld hO 0 rfl rfl ?_ | refine ld hO 1 rfl rfl ?_ | refine ld hO 2 rfl rfl ?_ | refine ld hO 3 rfl rfl ?_ | refine ld hO 4 rfl rfl ?_ | refine ld hO 5 rfl rfl ?_)
          by_cases h4 : 7 < s.tr
          · repeat (first | refine oi ?_ | refine ow ?_ | refine wy ?_ | refine wn ?_ | refine wt ?_ | refine wf' ?_ | refine cy ?_ | refine cn ?_ | refine ld hO 0 rfl rfl ?_ | refine ld hO 1 rfl rfl ?_ | refine ld hO 2 rfl rfl ?_ | refine ld hO 3 rfl rfl ?_ | refine ld hO 4 rfl rfl ?_ | refine ld hO 5 rfl rfl ?_)
            rw [decide_eq_false (show ¬ SRight s by rw [hn2]; omega)] at hk
            exact hk _ hO.left
          · repeat (first | refine oi ?_ | refine ow ?_ | refine wy ?_ | refine wn ?_ | refine wt ?_ | refine wf' ?_ | refine cy ?_ | refine cn ?_ | refine ld hO 0 rfl rfl ?_ | refine ld hO 1 rfl rfl ?_ | refine ld hO 2 rfl rfl ?_ | refine ld hO 3 rfl rfl ?_ | refine ld hO 4 rfl rfl ?_ | refine ld hO 5 rfl rfl ?_)
            exact ⟨(by first | rfl | trivial), (by first | rfl | trivial), by rw [hn2]; exact ⟨fun h => h.2, fun h => ⟨by omega, h⟩⟩⟩
      · repeat (first | refine oi ?_ | refine ow ?_ | refine wy ?_ | refine wn ?_ | refine wt ?_ | refine wf' ?_ | refine cy ?_ | refine cn ?_ | refine ld hO 0 rfl rfl ?_ | refine ld hO 1 rfl rfl ?_ | refine ld hO 2 rfl rfl ?_ | refine ld hO 3 rfl rfl ?_ | refine ld hO 4 rfl rfl ?_ | refine ld hO 5 rfl rfl ?_)
        by_cases h3 : s.st = 3
        · repeat (first | refine oi ?_ | refine ow ?_ | refine wy ?_ | refine wn ?_ | refine wt ?_ | refine wf' ?_ | refine cy ?_ | refine cn ?_ | refine ld hO 0 rfl rfl ?_ | refine ld hO 1 rfl rfl ?_ | refine ld hO 2 rfl rfl ?_ | refine ld hO 3 rfl rfl ?_ | refine ld hO 4 rfl rfl ?_ | refine ld hO 5 rfl rfl ?_)
          have hn2 : SRight s ↔ (s.tr = 0 ∧ SImg s) := by
            rw [hn]; constructor
            · rintro (⟨h, _⟩ | ⟨_, h⟩)
              · omega
              · exact h
            · exact fun h => .inr ⟨h3, h⟩
          by_cases h4 : s.tr = 0
          · repeat (first | refine oi ?_ | refine ow ?_ | refine wy ?_ | refine wn ?_ | refine wt ?_ | refine wf' ?_ | refine cy ?_ | refine cn ?_ | refine ld hO 0 rfl rfl ?_ | refine ld hO 1 rfl rfl ?_ | refine ld hO 2 rfl rfl ?_ | refine ld hO 3 rfl rfl ?_ | refine ld hO 4 rfl rfl ?_ | refine ld hO 5 rfl rfl ?_)
            exact ⟨(by first | rfl | trivial), (by first | rfl | trivial), by rw [hn2]; exact ⟨fun h => h.2, fun h => ⟨by omega, h⟩⟩⟩
          · repeat (first | refine oi ?_ | refine ow ?_ | refine wy ?_ | refine wn ?_ | refine wt ?_ | refine wf' ?_ | refine cy ?_ | refine cn ?_ | refine ld hO 0 rfl rfl ?_ | refine ld hO 1 rfl rfl ?_ | refine ld hO 2 rfl rfl ?_ | refine ld hO 3 rfl rfl ?_ | refine ld hO 4 rfl rfl ?_ | refine ld hO 5 rfl rfl ?_)
            rw [decide_eq_false (show ¬ SRight s by rw [hn2]; exact fun h => h4 h.1)] at hk
            exact hk _ hO.left
        · repeat (first | refine oi ?_ | refine ow ?_ | refine wy ?_ | refine wn ?_ | refine wt ?_ | refine wf' ?_ | refine cy ?_ | refine cn ?_ | refine ld hO 0 rfl rfl ?_ | refine ld hO 1 rfl rfl ?_ | refine ld hO 2 rfl rfl ?_ | refine ld hO 3 rfl rfl ?_ | refine ld hO 4 rfl rfl ?_ | refine ld hO 5 rfl rfl ?_)
          rw [decide_eq_false (show ¬ SRight s by rw [hn]; rintro (⟨h, _⟩ | ⟨h, _⟩); exact h2 h; exact h3 h)] at hk
          exact hk _ hO.left
  rintro l' H' ⟨rfl, rfl, hR⟩
  rw [show decide (SRight s) = decide (SImg s) from decide_eq_decide.2 hR] at hk
  try simp only [nth_zero, nth_succ]
  repeat (first | refine oi ?_ | refine ow ?_ | refine wy ?_ | refine wn ?_ | refine wt ?_ | refine wf' ?_ | refine cy ?_ | refine cn ?_ | refine ld hO 0 rfl rfl ?_ | refine ld hO 1 rfl rfl ?_ | refine ld hO 2 rfl rfl ?_ | refine ld hO 3 rfl rfl ?_ | refine ld hO 4 rfl rfl ?_ | refine ld hO 5 rfl rfl ?_)
  by_cases h1 : 1 ≤ s.ver
  · repeat (first | refine oi ?_ | refine ow ?_ | refine wy ?_ | refine wn ?_ | refine wt ?_ | refine wf' ?_ | refine cy ?_ | refine cn ?_ | refine ld hO 0 rfl rfl ?_ | refine ld hO 1 rfl rfl ?_ | refine ld hO 2 rfl rfl ?_ | refine ld hO 3 rfl rfl ?_ | refine ld hO 4 rfl rfl ?_ | refine ld hO 5 rfl rfl ?_)
    by_cases h2 : s.ver ≤ 281474976710656
    · repeat (first | refine oi ?_ | refine ow ?_ | refine wy ?_ | refine wn ?_ | refine wt ?_ | refine wf' ?_ | refine cy ?_ | refine cn ?_ | refine ld hO 0 rfl rfl ?_ | refine ld hO 1 rfl rfl ?_ | refine ld hO 2 rfl rfl ?_ | refine ld hO 3 rfl rfl ?_ | refine ld hO 4 rfl rfl ?_ | refine ld hO 5 rfl rfl ?_)
      by_cases h3 : 1 ≤ s.sz
      · repeat (first | refine oi ?_ | refine ow ?_ | refine wy ?_ | refine wn ?_ | refine wt ?_ | refine wf' ?_ | refine cy ?_ | refine cn ?_ | refine ld hO 0 rfl rfl ?_ | refine ld hO 1 rfl rfl ?_ | refine ld hO 2 rfl rfl ?_ | refine ld hO 3 rfl rfl ?_ | refine ld hO 4 rfl rfl ?_ | refine ld hO 5 rfl rfl ?_)
        rw [show decide (SImg s) = decide (s.sz ≤ 65536) from decide_eq_decide.2 (by unfold SImg; omega)] at hk
        exact hk _ hO.left
      · repeat (first | refine oi ?_ | refine ow ?_ | refine wy ?_ | refine wn ?_ | refine wt ?_ | refine wf' ?_ | refine cy ?_ | refine cn ?_ | refine ld hO 0 rfl rfl ?_ | refine ld hO 1 rfl rfl ?_ | refine ld hO 2 rfl rfl ?_ | refine ld hO 3 rfl rfl ?_ | refine ld hO 4 rfl rfl ?_ | refine ld hO 5 rfl rfl ?_)
        rw [decide_eq_false (show ¬ SImg s by unfold SImg; omega)] at hk
        exact hk _ hO.left
    · repeat (first | refine oi ?_ | refine ow ?_ | refine wy ?_ | refine wn ?_ | refine wt ?_ | refine wf' ?_ | refine cy ?_ | refine cn ?_ | refine ld hO 0 rfl rfl ?_ | refine ld hO 1 rfl rfl ?_ | refine ld hO 2 rfl rfl ?_ | refine ld hO 3 rfl rfl ?_ | refine ld hO 4 rfl rfl ?_ | refine ld hO 5 rfl rfl ?_)
      rw [decide_eq_false (show ¬ SImg s by unfold SImg; omega)] at hk
      exact hk _ hO.left
  · repeat (first | refine oi ?_ | refine ow ?_ | refine wy ?_ | refine wn ?_ | refine wt ?_ | refine wf' ?_ | refine cy ?_ | refine cn ?_ | refine ld hO 0 rfl rfl ?_ | refine ld hO 1 rfl rfl ?_ | refine ld hO 2 rfl rfl ?_ | refine ld hO 3 rfl rfl ?_ | refine ld hO 4 rfl rfl ?_ | refine ld hO 5 rfl rfl ?_)
    rw [decide_eq_false (show ¬ SImg s by unfold SImg; omega)] at hk
    exact hk _ hO.left
end
variable {H : Heap} {Γ : List (Nat × Blk)} {K : Value → Heap → Prop}
section
variable {s : Sl}
end
variable {H : Heap} {Γ : List (Nat × Blk)} {K : Value → Heap → Prop}
section
variable {t : Tb}
def Tb.sl (t : Tb) (i : Int) : Sl := if i = 0 then t.a else t.b
def Ix (x : Int) : Prop := x = 0 ∨ x = 1
instance (x : Int) : Decidable (Ix x) := by unfold Ix; infer_instance
def TRight (t : Tb) : Prop := SRight t.a ∧ SRight t.b ∧ Ix t.act ∧ (t.boo = -1 ∨ Ix t.boo) ∧ t.flo ≤ 281474976710656
instance (t : Tb) : Decidable (TRight t) := by unfold TRight; infer_instance
theorem load_slot {p o : Nat} {w : Bool} {x : Int} {K : Value → Heap → Prop} (hO : St H Γ) (i : Nat) (hi : Γ[i]? = some (p, ⟨tbC t, w⟩)) (hx : Ix x) (ho : o = x.toNat * 36) (hk : K (agg (slC (t.sl x))) H) : opW (loadAgg 36 (ptr p o) H) K := by
  rcases hx with rfl | rfl
  · have ho : o = 0 := ho
    subst ho
    exact loadAgg_at hO i hi (show _ = slC t.a from rfl) rfl (by omega) hk
  · have ho : o = 36 := ho
    subst ho
    exact loadAgg_at hO i hi (show _ = slC t.b from rfl) rfl (by omega) hk
theorem table_index_spec {x : Int} (hk : K (.bool (decide (Ix x))) H) : wCall P n_table_index [int x] H K := by
  apply table_index_ok; unfold table_index
  repeat (first | refine oi ?_ | refine ow ?_ | refine wy ?_ | refine wn ?_ | refine wt ?_ | refine wf' ?_ | refine cy ?_ | refine cn ?_)
  by_cases h : x = 0
  · repeat (first | refine oi ?_ | refine ow ?_ | refine wy ?_ | refine wn ?_ | refine wt ?_ | refine wf' ?_ | refine cy ?_ | refine cn ?_)
    rw [decide_eq_true (show Ix x from .inl h)] at hk
    exact hk
  · repeat (first | refine oi ?_ | refine ow ?_ | refine wy ?_ | refine wn ?_ | refine wt ?_ | refine wf' ?_ | refine cy ?_ | refine cn ?_)
    rw [show decide (Ix x) = decide (x = 1) from decide_eq_decide.2 (by unfold Ix; omega)] at hk
    exact hk
theorem table_Right_spec (hO : St H Γ) (hk : ∀ H', St H' Γ → K (.bool (decide (TRight t))) H') : wCall P n_table_Right [agg (tbC t)] H K := by
  apply table_Right_ok; unfold table_Right
  refine new_at hO ?_
  intro p H hO
  repeat (first | refine oi ?_ | refine ow ?_ | refine wy ?_ | refine wn ?_ | refine wt ?_ | refine wf' ?_ | refine cy ?_ | refine cn ?_ | refine ld hO 0 rfl rfl ?_ | refine ld hO 1 rfl rfl ?_ | refine ld hO 2 rfl rfl ?_ | refine ld hO 3 rfl rfl ?_ | refine ld hO 4 rfl rfl ?_ | refine ld hO 5 rfl rfl ?_)
  refine load_slot (t := t) (x := 0) hO (Γ.length + 0) (at_r rfl) (.inl rfl) rfl ?_
  refine slot_Right_spec hO ?_
  intro H hO
  by_cases h1 : SRight t.a
  · rw [show decide (SRight (t.sl 0)) = true from decide_eq_true h1]
    repeat (first | refine oi ?_ | refine ow ?_ | refine wy ?_ | refine wn ?_ | refine wt ?_ | refine wf' ?_ | refine cy ?_ | refine cn ?_ | refine ld hO 0 rfl rfl ?_ | refine ld hO 1 rfl rfl ?_ | refine ld hO 2 rfl rfl ?_ | refine ld hO 3 rfl rfl ?_ | refine ld hO 4 rfl rfl ?_ | refine ld hO 5 rfl rfl ?_)
    refine load_slot (t := t) (x := 1) hO (Γ.length + 0) (at_r rfl) (.inr rfl) rfl ?_
    refine slot_Right_spec hO ?_
    intro H hO
    by_cases h2 : SRight t.b
    · rw [show decide (SRight (t.sl 1)) = true from decide_eq_true h2]
      repeat (first | refine oi ?_ | refine ow ?_ | refine wy ?_ | refine wn ?_ | refine wt ?_ | refine wf' ?_ | refine cy ?_ | refine cn ?_ | refine ld hO 0 rfl rfl ?_ | refine ld hO 1 rfl rfl ?_ | refine ld hO 2 rfl rfl ?_ | refine ld hO 3 rfl rfl ?_ | refine ld hO 4 rfl rfl ?_ | refine ld hO 5 rfl rfl ?_)
      refine table_index_spec ?_
      by_cases h3 : Ix t.act
      · rw [decide_eq_true h3]
        repeat (first | refine oi ?_ | refine ow ?_ | refine wy ?_ | refine wn ?_ | refine wt ?_ | refine wf' ?_ | refine cy ?_ | refine cn ?_ | refine ld hO 0 rfl rfl ?_ | refine ld hO 1 rfl rfl ?_ | refine ld hO 2 rfl rfl ?_ | refine ld hO 3 rfl rfl ?_ | refine ld hO 4 rfl rfl ?_ | refine ld hO 5 rfl rfl ?_)
        by_cases h4 : t.boo = -1
        · repeat (first | refine oi ?_ | refine ow ?_ | refine wy ?_ | refine wn ?_ | refine wt ?_ | refine wf' ?_ | refine cy ?_ | refine cn ?_ | refine ld hO 0 rfl rfl ?_ | refine ld hO 1 rfl rfl ?_ | refine ld hO 2 rfl rfl ?_ | refine ld hO 3 rfl rfl ?_ | refine ld hO 4 rfl rfl ?_ | refine ld hO 5 rfl rfl ?_)
          rw [show decide (TRight t) = decide (t.flo ≤ 281474976710656) from decide_eq_decide.2 ⟨fun h => h.2.2.2.2, fun h => ⟨h1, h2, h3, .inl h4, h⟩⟩] at hk
          exact hk _ hO.left
        · repeat (first | refine oi ?_ | refine ow ?_ | refine wy ?_ | refine wn ?_ | refine wt ?_ | refine wf' ?_ | refine cy ?_ | refine cn ?_ | refine ld hO 0 rfl rfl ?_ | refine ld hO 1 rfl rfl ?_ | refine ld hO 2 rfl rfl ?_ | refine ld hO 3 rfl rfl ?_ | refine ld hO 4 rfl rfl ?_ | refine ld hO 5 rfl rfl ?_)
          refine table_index_spec ?_
          by_cases h5 : Ix t.boo
          · rw [decide_eq_true h5]
            repeat (first | refine oi ?_ | refine ow ?_ | refine wy ?_ | refine wn ?_ | refine wt ?_ | refine wf' ?_ | refine cy ?_ | refine cn ?_ | refine ld hO 0 rfl rfl ?_ | refine ld hO 1 rfl rfl ?_ | refine ld hO 2 rfl rfl ?_ | refine ld hO 3 rfl rfl ?_ | refine ld hO 4 rfl rfl ?_ | refine ld hO 5 rfl rfl ?_)
            rw [show decide (TRight t) = decide (t.flo ≤ 281474976710656) from decide_eq_decide.2 ⟨fun h => h.2.2.2.2, fun h => ⟨h1, h2, h3, .inr h5, h⟩⟩] at hk
            exact hk _ hO.left
          · rw [decide_eq_false h5]
            repeat (first | refine oi ?_ | refine ow ?_ | refine wy ?_ | refine wn ?_ | refine wt ?_ | refine wf' ?_ | refine cy ?_ | refine cn ?_ | refine ld hO 0 rfl rfl ?_ | refine ld hO 1 rfl rfl ?_ | refine ld hO 2 rfl rfl ?_ | refine ld hO 3 rfl rfl ?_ | refine ld hO 4 rfl rfl ?_ | refine ld hO 5 rfl rfl ?_)
            rw [decide_eq_false (show ¬ TRight t from fun h => by rcases h.2.2.2.1 with h | h; exact h4 h; exact h5 h)] at hk
            exact hk _ hO.left
      · rw [decide_eq_false h3]
        repeat (first | refine oi ?_ | refine ow ?_ | refine wy ?_ | refine wn ?_ | refine wt ?_ | refine wf' ?_ | refine cy ?_ | refine cn ?_ | refine ld hO 0 rfl rfl ?_ | refine ld hO 1 rfl rfl ?_ | refine ld hO 2 rfl rfl ?_ | refine ld hO 3 rfl rfl ?_ | refine ld hO 4 rfl rfl ?_ | refine ld hO 5 rfl rfl ?_)
        rw [decide_eq_false (show ¬ TRight t from fun h => h3 h.2.2.1)] at hk
        exact hk _ hO.left
    · rw [show decide (SRight (t.sl 1)) = false from decide_eq_false h2]
      repeat (first | refine oi ?_ | refine ow ?_ | refine wy ?_ | refine wn ?_ | refine wt ?_ | refine wf' ?_ | refine cy ?_ | refine cn ?_ | refine ld hO 0 rfl rfl ?_ | refine ld hO 1 rfl rfl ?_ | refine ld hO 2 rfl rfl ?_ | refine ld hO 3 rfl rfl ?_ | refine ld hO 4 rfl rfl ?_ | refine ld hO 5 rfl rfl ?_)
      rw [decide_eq_false (show ¬ TRight t from fun h => h2 h.2.1)] at hk
      exact hk _ hO.left
  · rw [show decide (SRight (t.sl 0)) = false from decide_eq_false h1]
    repeat (first | refine oi ?_ | refine ow ?_ | refine wy ?_ | refine wn ?_ | refine wt ?_ | refine wf' ?_ | refine cy ?_ | refine cn ?_ | refine ld hO 0 rfl rfl ?_ | refine ld hO 1 rfl rfl ?_ | refine ld hO 2 rfl rfl ?_ | refine ld hO 3 rfl rfl ?_ | refine ld hO 4 rfl rfl ?_ | refine ld hO 5 rfl rfl ?_)
    rw [decide_eq_false (show ¬ TRight t from fun h => h1 h.1)] at hk
    exact hk _ hO.left
theorem Ix.flip {x : Int} (h : Ix x) : Ix (1 - x) := by unfold Ix at *; omega
end
variable {H : Heap} {Γ : List (Nat × Blk)} {K : Value → Heap → Prop}
section
variable {t : Tb}
theorem bs1 (c : Ch) (H : Heap) : (buildSliceC P 43 1).f [(0, agg (chC c))] H = some (sl H.next 0 1 81, H.push (chC c)) := by kernel_rfl
def chs (l : List Ch) : List Value := l.flatMap chC
abbrev Made (Γ : List (Nat × Blk)) (K : Value → Heap → Prop) (r : List Ch × Int) : Prop := ∀ (H' : Heap) (v : Value), St H' (Γ ++ outB v (chs r.1)) → Own 40 v r.1.length (chs r.1) → K (.tuple [v, int r.2].toArray) H'
theorem Made.none {e : Int} (h : Made Γ K ([], e)) (hO : St H Γ) : K (.tuple [nilSl, int e].toArray) H := h H nilSl (by show St H (Γ ++ []); rw [List.append_nil]; exact hO) Own.nil
theorem chC_len (c : Ch) : (chC c).length = 40 := rfl
theorem chs_len : ∀ l : List Ch, (chs l).length = l.length * 40
  | [] => rfl
  | c :: l => by
    show (chC c ++ chs l).length = _
    rw [List.length_append, chC_len, chs_len l, List.length_cons]; omega
theorem chs_one (c : Ch) : chs [c] = chC c := List.append_nil _
theorem chs_two (c c' : Ch) : chs [c, c'] = chC c ++ chC c' := by show chC c ++ (chC c' ++ []) = _; rw [List.append_nil]
theorem Made.slice {L : List (Nat × Blk)} {p n : Nat} {l : List Ch} {cs : List Value} {e : Int} (h : Made Γ K (l, e)) (hc : chs l = cs) (hn : l.length = n) (hO : St H ((Γ ++ L) ++ [(p, ⟨cs, true⟩)])) (cap : Nat) (hcap : cap = 80 ∨ cap = 81) : K (.tuple [sl p 0 n cap, int e].toArray) H := by
  subst hc; subst hn
  refine h H (sl p 0 l.length cap) (St.mid hO) (.inr ⟨p, ?_, chs_len l⟩)
  rcases hcap with rfl | rfl
  · exact .inl rfl
  · exact .inr rfl
theorem Made.one {L : List (Nat × Blk)} {p : Nat} {c : Ch} {e : Int} (h : Made Γ K ([c], e)) (hO : St H ((Γ ++ L) ++ [(p, ⟨chC c, true⟩)])) : K (.tuple [sl p 0 1 81, int e].toArray) H := h.slice (chs_one c) rfl hO 81 (.inr rfl)
theorem Made.two {L : List (Nat × Blk)} {p : Nat} {c c' : Ch} {e : Int} (h : Made Γ K ([c, c'], e)) (hO : St H ((Γ ++ L) ++ [(p, ⟨chC c ++ chC c', true⟩)])) : K (.tuple [sl p 0 2 81, int e].toArray) H := h.slice (chs_two c c') rfl hO 81 (.inr rfl)
end
variable {H : Heap} {Γ : List (Nat × Blk)} {K : Value → Heap → Prop}
section
variable {t : Tb}
theorem chC_one (c : Ch) : (chC c).all oneCell = true := rfl
theorem append_ch {v : Value} {l : List Ch} {c : Ch} {q : Nat} (hO : St H ((Γ ++ outB v (chs l)) ++ [(q, ⟨chC c, true⟩)])) (hv : Own 40 v l.length (chs l)) (hl : l.length ≤ 100)
    (hk : ∀ H' v', St H' (Γ ++ outB v' (chs (l ++ [c]))) → Own 40 v' (l ++ [c]).length (chs (l ++ [c])) → K v' H') : opW (appendWith 40 96 v (sl q 0 1 81) H) K := by
  have e : chs (l ++ [c]) = chs l ++ chC c := by unfold chs; rw [List.flatMap_append]; exact congrArg _ (List.append_nil _)
  refine append_own hO.left hv (by omega) (m := 1) (new := chC c) rfl ?_ (by omega) (by omega) (by omega) (chC_one c) rfl ?_
  · have := elems_sl (H := H) (size := 40) (n := 1) (p := q) (o := 0) (c := 81) (b := ⟨chC c, true⟩) (hO.at ((Γ ++ outB v (chs l)).length + 0) (at_r rfl) (.inl rfl)) (by rw [chC_len]; omega)
    rw [List.drop_zero, List.take_of_length_le (by rw [chC_len]; omega)] at this
    exact this
  · intro p H' hO' hown
    refine hk H' _ ?_ ?_
    · rw [e]; exact hO'
    · rw [e, List.length_append]; exact hown
end
variable {H : Heap} {Γ : List (Nat × Blk)} {K : Value → Heap → Prop}
section
variable {t : Tb}
theorem Made.app {L : List (Nat × Blk)} {v : Value} {l : List Ch} {e : Int} (h : Made Γ K (l, e)) (hO : St H ((Γ ++ L) ++ outB v (chs l))) (hv : Own 40 v l.length (chs l)) : K (.tuple [v, int e].toArray) H := h H v (St.mid hO) hv
theorem Ix.bd {x : Int} (h : Ix x) : 0 ≤ x ∧ x ≤ 1 := by unfold Ix at h; omega
end
variable {H : Heap} {Γ : List (Nat × Blk)} {K : Value → Heap → Prop}
section
variable {t : Tb}
theorem TRight.sl {i : Int} (h : TRight t) : SRight (t.sl i) := by unfold Tb.sl; split; exact h.1; exact h.2.1
end
variable {H : Heap} {Γ : List (Nat × Blk)} {K : Value → Heap → Prop}
section
variable {t : Tb}
theorem Fit.join : ∀ {a b : List CK} {xs ys : List Value}, Fit a xs → Fit b ys → Fit (a ++ b) (xs ++ ys)
  | [], _, [], _, _, h => h
  | _ :: _, _, _ :: _, _, h, h2 => ⟨h.1, Fit.join h.2 h2⟩
theorem fitC (c : Ch) : Fit kC (chC c) := ⟨rfl, rfl, rfl, Fit.join (fitS c.to) ⟨rfl, trivial⟩⟩
theorem chs_at : ∀ (l : List Ch) (i : Nat) (h : i < l.length), ((chs l).drop (i * 40)).take 40 = chC l[i]
  | [], _, h => by simp at h
  | c :: l, 0, _ => by
    show ((chC c ++ chs l).drop 0).take 40 = chC c
    rw [List.drop_zero, List.take_append_of_le_length (by rw [chC_len]; omega), List.take_of_length_le (by rw [chC_len]; omega)]
  | c :: l, i + 1, h => by
    show ((chC c ++ chs l).drop ((i + 1) * 40)).take 40 = chC (l[i]'(by simpa using h))
    rw [show (i + 1) * 40 = 40 + i * 40 by omega, ← List.drop_drop, show (chC c ++ chs l).drop 40 = chs l from rfl]
    exact chs_at l i (by simpa using h)
def RdC (Γ : List (Nat × Blk)) (v : Value) (l : List Ch) : Prop :=
  lenSl v = (fun H => some (int l.length, H)) ∧ (l = [] ∨ ∃ (p c j : Nat), v = sl p 0 l.length c ∧ ∃ w : Bool, Γ[j]? = some (p, (⟨chs l, w⟩ : Blk)))
theorem RdC.app {Γ Δ : List (Nat × Blk)} {v : Value} {l : List Ch} (h : RdC Γ v l) : RdC (Γ ++ Δ) v l := by
  refine ⟨h.1, ?_⟩
  rcases h.2 with h | ⟨p, c, j, h1, w, h2⟩
  · exact .inl h
  · exact .inr ⟨p, c, j, h1, w, at_l h2⟩
theorem RdC.app' {Γ Δ : List (Nat × Blk)} {v : Value} {l : List Ch} (h : RdC Δ v l) : RdC (Γ ++ Δ) v l := by
  refine ⟨h.1, ?_⟩
  rcases h.2 with h | ⟨p, c, j, h1, w, h2⟩
  · exact .inl h
  · exact .inr ⟨p, c, _, h1, w, at_r h2⟩
theorem RdC.own {v : Value} {l : List Ch} (h : Own 40 v l.length (chs l)) : RdC (outB v (chs l)) v l := by
  refine ⟨funext fun H => h.lenSl, ?_⟩
  rcases h with ⟨rfl, h, _⟩ | ⟨p, rfl | rfl, _⟩
  · exact .inl (List.length_eq_zero_iff.1 h)
  · exact .inr ⟨p, _, 0, rfl, true, rfl⟩
  · exact .inr ⟨p, _, 0, rfl, true, rfl⟩
end
variable {H : Heap} {Γ : List (Nat × Blk)} {K : Value → Heap → Prop}
section
variable {t : Tb} {c : Ch}
theorem eqCells_join : ∀ {a a' b b' : List Value}, a.length = a'.length → eqCells (a ++ b) (a' ++ b') = (eqCells a a' && eqCells b b')
  | [], [], _, _, _ => by simp [eqCells]
  | x :: a, y :: a', b, b', h => by
    show (cellEq x y && eqCells (a ++ b) (a' ++ b')) = ((cellEq x y && eqCells a a') && eqCells b b')
    rw [eqCells_join (by simpa using h), Bool.and_assoc]
  | [], _ :: _, _, _, h => by simp at h
  | _ :: _, [], _, _, h => by simp at h
def SEq (s s' : Sl) : Prop := eqCells (slC s) (slC s') = true
instance (s s' : Sl) : Decidable (SEq s s') := by unfold SEq; infer_instance
theorem SEq.rfl' (s : Sl) : SEq s s := eqCells_self (fitS s)
theorem eq_ch (c c' : Ch) : eqCells (chC c) (chC c') = decide (c.kind = c'.kind ∧ c.slot = c'.slot ∧ c.n = c'.n ∧ SEq c.to c'.to ∧ c.ver = c'.ver) := by
  have e : eqCells (chC c) (chC c') = (cellEq (int c.kind) (int c'.kind) && (cellEq (int c.slot) (int c'.slot) && (cellEq (int c.n) (int c'.n) && eqCells (slC c.to ++ [.int .u64 c.ver]) (slC c'.to ++ [.int .u64 c'.ver])))) := rfl
  rw [e, eqCells_join (a := slC c.to) (a' := slC c'.to) rfl, Bool.eq_iff_iff, decide_eq_true_iff]
  unfold SEq
  simp [cellEq, eqCells]
def SZ (s : Sl) : Prop := SEq (slz 0) s
instance (s : Sl) : Decidable (SZ s) := by unfold SZ; infer_instance
def CRight (c : Ch) : Prop :=
  (c.kind = 1 ∧ (Ix c.slot ∧ SRight c.to) ∧ c.n = 0 ∧ c.ver = 0) ∨
  (c.kind = 2 ∧ Ix c.n ∧ c.slot = 0 ∧ SZ c.to ∧ c.ver = 0) ∨
  (c.kind = 3 ∧ (c.n = -1 ∨ Ix c.n) ∧ c.slot = 0 ∧ SZ c.to ∧ c.ver = 0) ∨
  (c.kind = 4 ∧ c.ver ≤ 281474976710656 ∧ c.slot = 0 ∧ c.n = 0 ∧ SZ c.to)
instance (c : Ch) : Decidable (CRight c) := by unfold CRight; infer_instance
end
variable {H : Heap} {Γ : List (Nat × Blk)} {K : Value → Heap → Prop}
section
variable {t : Tb} {c : Ch}
theorem b58k (k : Int) : (buildC P 41).f [(0, int k)] = some (agg (chC ⟨k, 0, 0, slz 0, 0⟩)) := by kernel_rfl
theorem eq58 (c c' : Ch) (b : Bool) : (binC P .eql 41 b).f (agg (chC c)) (agg (chC c')) = some (.bool (eqCells (chC c) (chC c'))) := bin_eql_f f58 (by kernel_rfl) (by kernel_rfl) (fitC c) (fitC c')
theorem table_right_spec (hO : St H Γ) (hk : ∀ H', St H' Γ → K (.bool (decide (CRight c))) H') : wCall P n_table_right [agg (chC c)] H K := by
  apply table_right_ok; unfold table_right
  refine new_at hO ?_
  intro p H hO
  repeat (first | refine oi ?_ | refine ow ?_ | refine wy ?_ | refine wn ?_ | refine wt ?_ | refine wf' ?_ | refine cy ?_ | refine cn ?_ | refine ld hO 0 rfl rfl ?_ | refine ld hO 1 rfl rfl ?_ | refine ld hO 2 rfl rfl ?_ | refine ld hO 3 rfl rfl ?_ | refine ld hO 4 rfl rfl ?_ | refine ld hO 5 rfl rfl ?_)
  refine opP_i (b58k _) ?_
  rw [zc58]
  refine new_at hO ?_
  intro q H hO
  rw [List.append_assoc] at hO
  refine storeAll_at hO (Γ.length + 1) (at_r rfl) rfl rfl rfl ?_
  intro H hO
  have hO : St H (Γ ++ [(p, ⟨chC c, true⟩), (q, ⟨chC ⟨c.kind, 0, 0, slz 0, 0⟩, true⟩)]) := hO.set_r
  refine join_with (fun l' H' => ∃ (d : Ch) (ok : Bool), l' = [ptr p 0, ptr q 0, .bool ok] ∧ St H' (Γ ++ [(p, ⟨chC c, true⟩), (q, ⟨chC d, true⟩)]) ∧ (ok && decide (d.kind = c.kind ∧ d.slot = c.slot ∧ d.n = c.n ∧ SEq d.to c.to ∧ d.ver = c.ver)) = decide (CRight c)) ?_ ?_
  · repeat (first | refine oi ?_ | refine ow ?_ | refine wy ?_ | refine wn ?_ | refine wt ?_ | refine wf' ?_ | refine cy ?_ | refine cn ?_ | refine ld hO 0 rfl rfl ?_ | refine ld hO 1 rfl rfl ?_ | refine ld hO 2 rfl rfl ?_ | refine ld hO 3 rfl rfl ?_ | refine ld hO 4 rfl rfl ?_ | refine ld hO 5 rfl rfl ?_)
    by_cases h1 : c.kind = 1
    · repeat (first | refine oi ?_ | refine ow ?_ | refine wy ?_ | refine wn ?_ | refine wt ?_ | refine wf' ?_ | refine cy ?_ | refine cn ?_ | refine ld hO 0 rfl rfl ?_ | refine ld hO 1 rfl rfl ?_ | refine ld hO 2 rfl rfl ?_ | refine ld hO 3 rfl rfl ?_ | refine ld hO 4 rfl rfl ?_ | refine ld hO 5 rfl rfl ?_)
      refine loadAgg_at hO (Γ.length + 0) (at_r rfl) (show _ = slC c.to from rfl) rfl (by omega) ?_
      repeat (first | refine oi ?_ | refine ow ?_ | refine wy ?_ | refine wn ?_ | refine wt ?_ | refine wf' ?_ | refine cy ?_ | refine cn ?_ | refine ld hO 0 rfl rfl ?_ | refine ld hO 1 rfl rfl ?_ | refine ld hO 2 rfl rfl ?_ | refine ld hO 3 rfl rfl ?_ | refine ld hO 4 rfl rfl ?_ | refine ld hO 5 rfl rfl ?_)
      have hne := St.ne hO (i := Γ.length + 0) (j := Γ.length + 1) (at_r rfl) (at_r rfl) (by omega)
      refine store1_at hO (Γ.length + 1) (at_r rfl) rfl (show 1 < 40 by omega) (show _ = chC ⟨c.kind, c.slot, 0, slz 0, 0⟩ from rfl) ?_
      intro H hO
      have hO := hO.set_r
      refine ⟨apart2 hne, ?_⟩
      repeat (first | refine oi ?_ | refine ow ?_ | refine wy ?_ | refine wn ?_ | refine wt ?_ | refine wf' ?_ | refine cy ?_ | refine cn ?_ | refine ld hO 0 rfl rfl ?_ | refine ld hO 1 rfl rfl ?_ | refine ld hO 2 rfl rfl ?_ | refine ld hO 3 rfl rfl ?_ | refine ld hO 4 rfl rfl ?_ | refine ld hO 5 rfl rfl ?_)
      refine store_at hO (Γ.length + 1) (at_r rfl) rfl (show 3 + 36 ≤ 40 by omega) rfl ?_
      intro H hO
      have hO : St H (Γ ++ [(p, ⟨chC c, true⟩), (q, ⟨chC ⟨c.kind, c.slot, 0, c.to, 0⟩, true⟩)]) := hO.set_r
      repeat (first | refine oi ?_ | refine ow ?_ | refine wy ?_ | refine wn ?_ | refine wt ?_ | refine wf' ?_ | refine cy ?_ | refine cn ?_ | refine ld hO 0 rfl rfl ?_ | refine ld hO 1 rfl rfl ?_ | refine ld hO 2 rfl rfl ?_ | refine ld hO 3 rfl rfl ?_ | refine ld hO 4 rfl rfl ?_ | refine ld hO 5 rfl rfl ?_)
      refine table_index_spec ?_
      have hd : CRight c ↔ (Ix c.slot ∧ SRight c.to) ∧ 0 = c.n ∧ 0 = c.ver := by
        unfold CRight; constructor
        · rintro (⟨_, h, h2, h3⟩ | ⟨h, _⟩ | ⟨h, _⟩ | ⟨h, _⟩)
          · exact ⟨h, h2.symm, h3.symm⟩
          · omega
          · omega
          · omega
        · exact fun h => .inl ⟨h1, h.1, h.2.1.symm, h.2.2.symm⟩
      have he : decide (c.kind = c.kind ∧ c.slot = c.slot ∧ 0 = c.n ∧ SEq c.to c.to ∧ 0 = c.ver) = decide (0 = c.n ∧ 0 = c.ver) := decide_eq_decide.2 ⟨fun h => ⟨h.2.2.1, h.2.2.2.2⟩, fun h => ⟨rfl, rfl, h.1, SEq.rfl' _, h.2⟩⟩
      by_cases h2 : Ix c.slot
      · rw [decide_eq_true h2]
        repeat (first | refine oi ?_ | refine ow ?_ | refine wy ?_ | refine wn ?_ | refine wt ?_ | refine wf' ?_ | refine cy ?_ | refine cn ?_ | refine ld hO 0 rfl rfl ?_ | refine ld hO 1 rfl rfl ?_ | refine ld hO 2 rfl rfl ?_ | refine ld hO 3 rfl rfl ?_ | refine ld hO 4 rfl rfl ?_ | refine ld hO 5 rfl rfl ?_)
        refine loadAgg_at hO (Γ.length + 0) (at_r rfl) (show _ = slC c.to from rfl) rfl (by omega) ?_
        refine slot_Right_spec hO ?_
        intro H hO
        repeat (first | refine oi ?_ | refine ow ?_ | refine wy ?_ | refine wn ?_ | refine wt ?_ | refine wf' ?_ | refine cy ?_ | refine cn ?_ | refine ld hO 0 rfl rfl ?_ | refine ld hO 1 rfl rfl ?_ | refine ld hO 2 rfl rfl ?_ | refine ld hO 3 rfl rfl ?_ | refine ld hO 4 rfl rfl ?_ | refine ld hO 5 rfl rfl ?_)
        refine ⟨⟨c.kind, c.slot, 0, c.to, 0⟩, decide (SRight c.to), rfl, hO, ?_⟩
        rw [Bool.eq_iff_iff, decide_eq_true_iff, Bool.and_eq_true, decide_eq_true_iff, decide_eq_true_iff, hd]
        exact ⟨fun h => ⟨⟨h2, h.1⟩, h.2.2.2.1, h.2.2.2.2.2⟩, fun h => ⟨h.1.2, rfl, rfl, h.2.1, SEq.rfl' _, h.2.2⟩⟩
      · rw [decide_eq_false h2]
        repeat (first | refine oi ?_ | refine ow ?_ | refine wy ?_ | refine wn ?_ | refine wt ?_ | refine wf' ?_ | refine cy ?_ | refine cn ?_ | refine ld hO 0 rfl rfl ?_ | refine ld hO 1 rfl rfl ?_ | refine ld hO 2 rfl rfl ?_ | refine ld hO 3 rfl rfl ?_ | refine ld hO 4 rfl rfl ?_ | refine ld hO 5 rfl rfl ?_)
        refine ⟨⟨c.kind, c.slot, 0, c.to, 0⟩, false, rfl, hO, ?_⟩
        rw [decide_eq_false (show ¬ CRight c by rw [hd]; exact fun h => h2 h.1.1)]; rfl
    · repeat (first | refine oi ?_ | refine ow ?_ | refine wy ?_ | refine wn ?_ | refine wt ?_ | refine wf' ?_ | refine cy ?_ | refine cn ?_ | refine ld hO 0 rfl rfl ?_ | refine ld hO 1 rfl rfl ?_ | refine ld hO 2 rfl rfl ?_ | refine ld hO 3 rfl rfl ?_ | refine ld hO 4 rfl rfl ?_ | refine ld hO 5 rfl rfl ?_)
      by_cases h2 : c.kind = 2
      · repeat (first | refine oi ?_ | refine ow ?_ | refine wy ?_ | refine wn ?_ | refine wt ?_ | refine wf' ?_ | refine cy ?_ | refine cn ?_ | refine ld hO 0 rfl rfl ?_ | refine ld hO 1 rfl rfl ?_ | refine ld hO 2 rfl rfl ?_ | refine ld hO 3 rfl rfl ?_ | refine ld hO 4 rfl rfl ?_ | refine ld hO 5 rfl rfl ?_)
        refine store1_at hO (Γ.length + 1) (at_r rfl) rfl (show 2 < 40 by omega) (show _ = chC ⟨c.kind, 0, c.n, slz 0, 0⟩ from rfl) ?_
        intro H hO
        have hO := hO.set_r
        repeat (first | refine oi ?_ | refine ow ?_ | refine wy ?_ | refine wn ?_ | refine wt ?_ | refine wf' ?_ | refine cy ?_ | refine cn ?_ | refine ld hO 0 rfl rfl ?_ | refine ld hO 1 rfl rfl ?_ | refine ld hO 2 rfl rfl ?_ | refine ld hO 3 rfl rfl ?_ | refine ld hO 4 rfl rfl ?_ | refine ld hO 5 rfl rfl ?_)
        refine table_index_spec ?_
        refine ⟨⟨c.kind, 0, c.n, slz 0, 0⟩, decide (Ix c.n), rfl, hO, ?_⟩
        rw [Bool.eq_iff_iff, decide_eq_true_iff, Bool.and_eq_true, decide_eq_true_iff, decide_eq_true_iff]
        unfold CRight SZ
        constructor
        · rintro ⟨hi, _, h3, _, h4, h5⟩
          exact .inr (.inl ⟨h2, hi, h3.symm, h4, h5.symm⟩)
        · rintro (⟨h, _⟩ | ⟨_, hi, h3, h4, h5⟩ | ⟨h, _⟩ | ⟨h, _⟩)
          · omega
          · exact ⟨hi, rfl, h3.symm, rfl, h4, h5.symm⟩
          · omega
          · omega
      · repeat (first | refine oi ?_ | refine ow ?_ | refine wy ?_ | refine wn ?_ | refine wt ?_ | refine wf' ?_ | refine cy ?_ | refine cn ?_ | refine ld hO 0 rfl rfl ?_ | refine ld hO 1 rfl rfl ?_ | refine ld hO 2 rfl rfl ?_ | refine ld hO 3 rfl rfl ?_ | refine ld hO 4 rfl rfl ?_ | refine ld hO 5 rfl rfl ?_)
        by_cases h3 : c.kind = 3
        · repeat (first | refine oi ?_ | refine ow ?_ | refine wy ?_ | refine wn ?_ | refine wt ?_ | refine wf' ?_ | refine cy ?_ | refine cn ?_ | refine ld hO 0 rfl rfl ?_ | refine ld hO 1 rfl rfl ?_ | refine ld hO 2 rfl rfl ?_ | refine ld hO 3 rfl rfl ?_ | refine ld hO 4 rfl rfl ?_ | refine ld hO 5 rfl rfl ?_)
          refine store1_at hO (Γ.length + 1) (at_r rfl) rfl (show 2 < 40 by omega) (show _ = chC ⟨c.kind, 0, c.n, slz 0, 0⟩ from rfl) ?_
          intro H hO
          have hO := hO.set_r
          repeat (first | refine oi ?_ | refine ow ?_ | refine wy ?_ | refine wn ?_ | refine wt ?_ | refine wf' ?_ | refine cy ?_ | refine cn ?_ | refine ld hO 0 rfl rfl ?_ | refine ld hO 1 rfl rfl ?_ | refine ld hO 2 rfl rfl ?_ | refine ld hO 3 rfl rfl ?_ | refine ld hO 4 rfl rfl ?_ | refine ld hO 5 rfl rfl ?_)
          have fin : ∀ ok : Bool, ok = decide (c.n = -1 ∨ Ix c.n) → (ok && decide (c.kind = c.kind ∧ 0 = c.slot ∧ c.n = c.n ∧ SEq (slz 0) c.to ∧ 0 = c.ver)) = decide (CRight c) := by
            rintro ok rfl
            rw [Bool.eq_iff_iff, decide_eq_true_iff, Bool.and_eq_true, decide_eq_true_iff, decide_eq_true_iff]
            unfold CRight SZ
            constructor
            · rintro ⟨hi, _, h3', _, h4, h5⟩
              exact .inr (.inr (.inl ⟨h3, hi, h3'.symm, h4, h5.symm⟩))
            · rintro (⟨h, _⟩ | ⟨h, _⟩ | ⟨_, hi, h3', h4, h5⟩ | ⟨h, _⟩)
              · omega
              · omega
              · exact ⟨hi, rfl, h3'.symm, rfl, h4, h5.symm⟩
              · omega
          by_cases h4 : c.n = -1
          · repeat (first | refine oi ?_ | refine ow ?_ | refine wy ?_ | refine wn ?_ | refine wt ?_ | refine wf' ?_ | refine cy ?_ | refine cn ?_ | refine ld hO 0 rfl rfl ?_ | refine ld hO 1 rfl rfl ?_ | refine ld hO 2 rfl rfl ?_ | refine ld hO 3 rfl rfl ?_ | refine ld hO 4 rfl rfl ?_ | refine ld hO 5 rfl rfl ?_)
            refine ⟨⟨c.kind, 0, c.n, slz 0, 0⟩, true, rfl, hO, fin _ (decide_eq_true (.inl h4)).symm⟩
          · repeat (first | refine oi ?_ | refine ow ?_ | refine wy ?_ | refine wn ?_ | refine wt ?_ | refine wf' ?_ | refine cy ?_ | refine cn ?_ | refine ld hO 0 rfl rfl ?_ | refine ld hO 1 rfl rfl ?_ | refine ld hO 2 rfl rfl ?_ | refine ld hO 3 rfl rfl ?_ | refine ld hO 4 rfl rfl ?_ | refine ld hO 5 rfl rfl ?_)
            refine table_index_spec ?_
            repeat (first | refine oi ?_ | refine ow ?_ | refine wy ?_ | refine wn ?_ | refine wt ?_ | refine wf' ?_ | refine cy ?_ | refine cn ?_ | refine ld hO 0 rfl rfl ?_ | refine ld hO 1 rfl rfl ?_ | refine ld hO 2 rfl rfl ?_ | refine ld hO 3 rfl rfl ?_ | refine ld hO 4 rfl rfl ?_ | refine ld hO 5 rfl rfl ?_)
            refine ⟨⟨c.kind, 0, c.n, slz 0, 0⟩, decide (Ix c.n), rfl, hO, fin _ (decide_eq_decide.2 ⟨.inr, fun h => h.resolve_left h4⟩)⟩
        · repeat (first | refine oi ?_ | refine ow ?_ | refine wy ?_ | refine wn ?_ | refine wt ?_ | refine wf' ?_ | refine cy ?_ | refine cn ?_ | refine ld hO 0 rfl rfl ?_ | refine ld hO 1 rfl rfl ?_ | refine ld hO 2 rfl rfl ?_ | refine ld hO 3 rfl rfl ?_ | refine ld hO 4 rfl rfl ?_ | refine ld hO 5 rfl rfl ?_)
          by_cases h4 : c.kind = 4
          · repeat (first | refine oi ?_ | refine ow ?_ | refine wy ?_ | refine wn ?_ | refine wt ?_ | refine wf' ?_ | refine cy ?_ | refine cn ?_ | refine ld hO 0 rfl rfl ?_ | refine ld hO 1 rfl rfl ?_ | refine ld hO 2 rfl rfl ?_ | refine ld hO 3 rfl rfl ?_ | refine ld hO 4 rfl rfl ?_ | refine ld hO 5 rfl rfl ?_)
            refine store1_at hO (Γ.length + 1) (at_r rfl) rfl (show 39 < 40 by omega) (show _ = chC ⟨c.kind, 0, 0, slz 0, c.ver⟩ from rfl) ?_
            intro H hO
            have hO := hO.set_r
            repeat (first | refine oi ?_ | refine ow ?_ | refine wy ?_ | refine wn ?_ | refine wt ?_ | refine wf' ?_ | refine cy ?_ | refine cn ?_ | refine ld hO 0 rfl rfl ?_ | refine ld hO 1 rfl rfl ?_ | refine ld hO 2 rfl rfl ?_ | refine ld hO 3 rfl rfl ?_ | refine ld hO 4 rfl rfl ?_ | refine ld hO 5 rfl rfl ?_)
            refine ⟨⟨c.kind, 0, 0, slz 0, c.ver⟩, decide (c.ver ≤ 281474976710656), rfl, hO, ?_⟩
            rw [Bool.eq_iff_iff, decide_eq_true_iff, Bool.and_eq_true, decide_eq_true_iff, decide_eq_true_iff]
            unfold CRight SZ
            constructor
            · rintro ⟨hi, _, h5, h6, h7, _⟩
              exact .inr (.inr (.inr ⟨h4, hi, h5.symm, h6.symm, h7⟩))
            · rintro (⟨h, _⟩ | ⟨h, _⟩ | ⟨h, _⟩ | ⟨_, hi, h5, h6, h7⟩)
              · omega
              · omega
              · omega
              · exact ⟨hi, rfl, h5.symm, h6.symm, h7, rfl⟩
          · repeat (first | refine oi ?_ | refine ow ?_ | refine wy ?_ | refine wn ?_ | refine wt ?_ | refine wf' ?_ | refine cy ?_ | refine cn ?_ | refine ld hO 0 rfl rfl ?_ | refine ld hO 1 rfl rfl ?_ | refine ld hO 2 rfl rfl ?_ | refine ld hO 3 rfl rfl ?_ | refine ld hO 4 rfl rfl ?_ | refine ld hO 5 rfl rfl ?_)
            refine ⟨⟨c.kind, 0, 0, slz 0, 0⟩, false, rfl, hO, ?_⟩
            rw [decide_eq_false (show ¬ CRight c by unfold CRight; omega)]; rfl
  clear hO
  rintro l' H ⟨d, ok, rfl, hO, hd⟩
  try simp only [nth_zero, nth_succ]
  cases ok with
  | true =>
    rw [Bool.true_and] at hd
    refine wIf_t rfl ?_
    refine loadAll_at hO (Γ.length + 1) (at_r rfl) rfl (by omega) ?_
    refine loadAll_at hO (Γ.length + 0) (at_r rfl) rfl (by omega) ?_
    refine opP_i (eq58 _ _ _) ?_
    rw [eq_ch, hd]
    repeat (first | refine oi ?_ | refine ow ?_ | refine wy ?_ | refine wn ?_ | refine wt ?_ | refine wf' ?_ | refine cy ?_ | refine cn ?_)
    exact hk _ hO.left
  | false =>
    refine wIf_f rfl ?_
    rw [← hd] at hk
    repeat (first | refine oi ?_ | refine ow ?_ | refine wy ?_ | refine wn ?_ | refine wt ?_ | refine wf' ?_ | refine cy ?_ | refine cn ?_)
    exact hk _ hO.left
end
variable {H : Heap} {Γ : List (Nat × Blk)} {K : Value → Heap → Prop}
section
variable {t : Tb} {l : List Ch}
def TOk (l : List Ch) : Prop := l.length ≤ 8 ∧ ∀ c ∈ l, CRight c
instance (l : List Ch) : Decidable (TOk l) := by unfold TOk; infer_instance
theorem take_mem {y : Nat} (h : y < l.length) {p : Ch → Prop} (ha : ∀ c ∈ l.take y, p c) (hb : p l[y]) : ∀ c ∈ l.take (y + 1), p c := by
  intro c hc
  rw [List.take_succ_eq_append_getElem h] at hc
  rcases List.mem_append.1 hc with hc | hc
  · exact ha c hc
  · have : c = l[y] := by simpa using hc
    subst this; exact hb
theorem table_transaction_spec {v : Value} (hO : St H Γ) (hv : RdC Γ v l) (hl : l.length ≤ 1000000) (hk : ∀ H', St H' Γ → K (.bool (decide (TOk l))) H') : wCall P n_table_transaction [v] H K := by
  apply table_transaction_ok; unfold table_transaction
  refine opW_i (by rw [hv.1]) ?_
  repeat (first | refine oi ?_ | refine ow ?_ | refine wy ?_ | refine wn ?_ | refine wt ?_ | refine wf' ?_ | refine cy ?_ | refine cn ?_)
  refine wIf_dec (fun h => ?_) (fun h => ?_)
  · rw [decide_eq_false (show ¬ TOk l from fun h' => by have := h'.1; omega)] at hk
    exact hk _ hO
  refine opW_i (by rw [hv.1]) ?_
  refine table_transaction_L0_ind (fun k l' H' => ∃ y : Nat, y ≤ l.length ∧ k = l.length - y ∧ l' = [.bool false, v, int l.length, int y] ∧ St H' Γ ∧ ∀ c ∈ l.take y, CRight c) _ _ ?_ l.length _ _ ⟨0, by omega, by omega, rfl, hO, by simp⟩
  rintro k l' H' ⟨y, hy, rfl, rfl, hO, hc⟩
  unfold table_transaction_L0
  try simp only [nth_zero, nth_succ]
  repeat (first | refine oi ?_ | refine ow ?_ | refine wy ?_ | refine wn ?_ | refine wt ?_ | refine wf' ?_ | refine cy ?_ | refine cn ?_)
  refine wIf_dec (fun h2 => ?_) (fun h2 => ?_)
  · rcases hv.2 with rfl | ⟨p, cp, j, rfl, w, hj⟩
    · simp at h2; omega
    have hyl : y < l.length := by omega
    have e : 0 + ((y : Nat) : Int).toNat * 40 = y * 40 := by rw [Int.toNat_natCast]; omega
    repeat (first | refine oi ?_ | refine ow ?_ | refine wy ?_ | refine wn ?_ | refine wt ?_ | refine wf' ?_ | refine cy ?_ | refine cn ?_)
    refine loadAgg_at hO j hj (show _ = chC l[y] from ?_) rfl (by omega) ?_
    · rw [e]; exact chs_at l y hyl
    rw [zc58]
    refine new_at hO ?_
    intro q H hO
    refine storeAll_at hO (Γ.length + 0) (at_r rfl) rfl rfl rfl ?_
    intro H hO
    have hO := hO.set_r
    refine loadAll_at hO (Γ.length + 0) (at_r rfl) rfl (by omega) ?_
    refine table_right_spec hO ?_
    intro H hO
    by_cases hr : CRight l[y]
    · rw [decide_eq_true hr]
      repeat (first | refine oi ?_ | refine ow ?_ | refine wy ?_ | refine wn ?_ | refine wt ?_ | refine wf' ?_ | refine cy ?_ | refine cn ?_)
      exact ⟨_, by omega, y + 1, by omega, rfl, rfl, hO.left, take_mem hyl hc hr⟩
    · rw [decide_eq_false hr]
      repeat (first | refine oi ?_ | refine ow ?_ | refine wy ?_ | refine wn ?_ | refine wt ?_ | refine wf' ?_ | refine cy ?_ | refine cn ?_)
      try simp only [nth_zero, nth_succ]
      rw [decide_eq_false (show ¬ TOk l from fun h => hr (h.2 _ (List.getElem_mem hyl)))] at hk
      exact hk _ hO.left
  · have e : y = l.length := by omega
    subst e
    rw [List.take_of_length_le (Nat.le_refl _)] at hc
    repeat (first | refine oi ?_ | refine ow ?_ | refine wy ?_ | refine wn ?_ | refine wt ?_ | refine wf' ?_ | refine cy ?_ | refine cn ?_)
    rw [decide_eq_true (show TOk l from ⟨by omega, hc⟩)] at hk
    exact hk _ hO
def Tb.put (t : Tb) (i : Int) (s : Sl) : Tb := if i = 0 then { t with a := s } else { t with b := s }
def ap1 (t : Tb) (c : Ch) : Option Tb :=
  if c.kind = 1 then some (t.put c.slot c.to) else if c.kind = 2 then some { t with act := c.n } else if c.kind = 3 then some { t with boo := c.n }
  else if c.ver < t.flo then none else some { t with flo := c.ver }
def apL : Tb → List Ch → Option Tb
  | t, [] => some t
  | t, c :: l => match ap1 t c with
    | some t' => apL t' l
    | none => none
def tbz : Tb := ⟨slz 0, slz 0, 0, 0, 0⟩
def tApply (t : Tb) (l : List Ch) : Tb × Int := if TRight t ∧ TOk l then (match apL t l with | some t' => (t', 0) | none => (tbz, 111)) else (tbz, 111)
theorem zc29 : zc P 37 = tbC tbz := by kernel_rfl
theorem b29 : (buildC P 37).f [] = some (agg (tbC tbz)) := by kernel_rfl
theorem store_slot {p o : Nat} {x : Int} {s : Sl} {K : Value → Heap → Prop} (hO : St H Γ) (i : Nat) (hi : Γ[i]? = some (p, ⟨tbC t, true⟩)) (hx : Ix x) (ho : o = x.toNat * 36) (hk : ∀ H', St H' (Γ.set i (p, ⟨tbC (t.put x s), true⟩)) → K undef H') : opW (storeTo 36 (ptr p o) (agg (slC s)) H) K := by
  rcases hx with rfl | rfl
  · have ho : o = 0 := ho
    subst ho
    exact store_at hO i hi rfl (show 0 + 36 ≤ 75 by omega) rfl fun H' hO => hk H' hO
  · have ho : o = 36 := ho
    subst ho
    exact store_at hO i hi rfl (show 36 + 36 ≤ 75 by omega) rfl fun H' hO => hk H' hO
theorem table_Apply_spec {v : Value} (hO : St H Γ) (hv : RdC Γ v l) (hl : l.length ≤ 1000000) (hk : ∀ H', St H' Γ → K (.tuple [agg (tbC (tApply t l).1), int (tApply t l).2].toArray) H') : wCall P n_table_Apply [agg (tbC t), v] H K := by
  apply table_Apply_ok; unfold table_Apply
  refine new_at hO ?_
  intro p H hO
  rw [zc29]
  refine new_at hO ?_
  intro q H hO
  rw [List.append_assoc] at hO
  have hO : St H (Γ ++ [(p, ⟨tbC t, true⟩), (q, ⟨tbC tbz, true⟩)]) := hO
  refine join_with (fun l' H' => l' = [v, ptr p 0, ptr q 0, int 0, .bool (decide ¬(TRight t ∧ TOk l))] ∧ St H' (Γ ++ [(p, ⟨tbC t, true⟩), (q, ⟨tbC tbz, true⟩)])) ?_ ?_
  · refine loadAll_at hO (Γ.length + 0) (at_r rfl) rfl (by omega) ?_
    refine table_Right_spec hO ?_
    intro H hO
    by_cases h : TRight t
    · rw [decide_eq_true h]
      repeat (first | refine oi ?_ | refine ow ?_ | refine wy ?_ | refine wn ?_ | refine wt ?_ | refine wf' ?_ | refine cy ?_ | refine cn ?_)
      refine table_transaction_spec hO hv.app hl ?_
      intro H hO
      repeat (first | refine oi ?_ | refine ow ?_ | refine wy ?_ | refine wn ?_ | refine wt ?_ | refine wf' ?_ | refine cy ?_ | refine cn ?_)
      refine ⟨?_, hO⟩
      rw [show (decide ¬(TRight t ∧ TOk l)) = !decide (TOk l) by by_cases hf : TOk l <;> simp [h, hf]]
    · rw [decide_eq_false h]
      repeat (first | refine oi ?_ | refine ow ?_ | refine wy ?_ | refine wn ?_ | refine wt ?_ | refine wf' ?_ | refine cy ?_ | refine cn ?_)
      refine ⟨?_, hO⟩
      rw [show (decide ¬(TRight t ∧ TOk l)) = true by simp [h]]
  clear hO
  rintro l' H ⟨rfl, hO⟩
  try simp only [nth_zero, nth_succ]
  refine wIf_dec (fun h => ?_) (fun h => ?_)
  · rw [show tApply t l = (tbz, 111) from if_neg h] at hk
    refine opP_i b29 ?_
    refine storeAll_at hO (Γ.length + 1) (at_r rfl) rfl rfl rfl ?_
    intro H hO
    have hO := hO.set_r
    refine loadAll_at hO (Γ.length + 1) (at_r rfl) rfl (by omega) ?_
    exact hk _ hO.left
  have h := Decidable.not_not.1 h
  rw [show tApply t l = (match apL t l with | some t' => (t', 0) | none => (tbz, 111)) from if_pos h] at hk
  refine opW_i (by rw [hv.1]) ?_
  refine table_Apply_L0_ind (fun k l' H' => ∃ (y : Nat) (t' : Tb), y ≤ l.length ∧ k = l.length - y ∧ l' = [ptr p 0, ptr q 0, int 0, v, int l.length, int y] ∧ St H' (Γ ++ [(p, ⟨tbC t', true⟩), (q, ⟨tbC tbz, true⟩)]) ∧ apL t l = apL t' (l.drop y)) _ _ ?_ l.length _ _ ⟨0, t, by omega, by omega, rfl, hO, rfl⟩
  clear hO
  rintro k l' H' ⟨y, t', hy, rfl, rfl, hO, ha⟩
  unfold table_Apply_L0
  try simp only [nth_zero, nth_succ]
  repeat (first | refine oi ?_ | refine ow ?_ | refine wy ?_ | refine wn ?_ | refine wt ?_ | refine wf' ?_ | refine cy ?_ | refine cn ?_)
  refine wIf_dec (fun h2 => ?_) (fun h2 => ?_)
  · rcases hv.2 with rfl | ⟨pv, cp, j, rfl, w, hj⟩
    · simp at h2; omega
    have hyl : y < l.length := by omega
    have e : 0 + ((y : Nat) : Int).toNat * 40 = y * 40 := by rw [Int.toNat_natCast]; omega
    have hcr := h.2.2 _ (List.getElem_mem hyl)
    have had : apL t l = (match ap1 t' l[y] with | some t'' => apL t'' (l.drop (y + 1)) | none => none) := by rw [ha, List.drop_eq_getElem_cons hyl]; rfl
    repeat (first | refine oi ?_ | refine ow ?_ | refine wy ?_ | refine wn ?_ | refine wt ?_ | refine wf' ?_ | refine cy ?_ | refine cn ?_)
    refine loadAgg_at hO j (at_l hj) (show _ = chC l[y] from ?_) rfl (by omega) ?_
    · rw [e]; exact chs_at l y hyl
    rw [zc58]
    refine new_at hO ?_
    intro b H hO
    rw [List.append_assoc] at hO
    generalize l[y] = c at *
    refine storeAll_at hO (Γ.length + 2) (at_r rfl) rfl rfl rfl ?_
    intro H hO
    have hO : St H (Γ ++ [(p, ⟨tbC t', true⟩), (q, ⟨tbC tbz, true⟩), (b, ⟨chC c, true⟩)]) := hO.set_r
    unfold ap1 at had
    unfold CRight at hcr
    repeat (first | refine oi ?_ | refine ow ?_ | refine wy ?_ | refine wn ?_ | refine wt ?_ | refine wf' ?_ | refine cy ?_ | refine cn ?_ | refine ld hO 0 rfl rfl ?_ | refine ld hO 1 rfl rfl ?_ | refine ld hO 2 rfl rfl ?_ | refine ld hO 3 rfl rfl ?_ | refine ld hO 4 rfl rfl ?_ | refine ld hO 5 rfl rfl ?_)
    by_cases h1 : c.kind = 1
    · rw [if_pos h1] at had
      have hi : Ix c.slot := by rcases hcr with h | h | h | h; exact h.2.1.1; all_goals omega
      have hi' := hi.bd
      repeat (first | refine oi ?_ | refine ow ?_ | refine wy ?_ | refine wn ?_ | refine wt ?_ | refine wf' ?_ | refine cy ?_ | refine cn ?_ | refine ld hO 0 rfl rfl ?_ | refine ld hO 1 rfl rfl ?_ | refine ld hO 2 rfl rfl ?_ | refine ld hO 3 rfl rfl ?_ | refine ld hO 4 rfl rfl ?_ | refine ld hO 5 rfl rfl ?_)
      refine loadAgg_at hO (Γ.length + 2) (at_r rfl) (show _ = slC c.to from rfl) rfl (by omega) ?_
      repeat (first | refine oi ?_ | refine ow ?_ | refine wy ?_ | refine wn ?_ | refine wt ?_ | refine wf' ?_ | refine cy ?_ | refine cn ?_ | refine ld hO 0 rfl rfl ?_ | refine ld hO 1 rfl rfl ?_ | refine ld hO 2 rfl rfl ?_ | refine ld hO 3 rfl rfl ?_ | refine ld hO 4 rfl rfl ?_ | refine ld hO 5 rfl rfl ?_)
      refine store_slot (t := t') (x := c.slot) hO (Γ.length + 0) (at_r rfl) hi (by omega) ?_
      intro H hO
      have hO := hO.set_r
      repeat (first | refine oi ?_ | refine ow ?_ | refine wy ?_ | refine wn ?_ | refine wt ?_ | refine wf' ?_ | refine cy ?_ | refine cn ?_ | refine ld hO 0 rfl rfl ?_ | refine ld hO 1 rfl rfl ?_ | refine ld hO 2 rfl rfl ?_ | refine ld hO 3 rfl rfl ?_ | refine ld hO 4 rfl rfl ?_ | refine ld hO 5 rfl rfl ?_)
      exact ⟨_, by omega, y + 1, _, by omega, rfl, rfl, hO.keep 2, had⟩
    · rw [if_neg h1] at had
      repeat (first | refine oi ?_ | refine ow ?_ | refine wy ?_ | refine wn ?_ | refine wt ?_ | refine wf' ?_ | refine cy ?_ | refine cn ?_ | refine ld hO 0 rfl rfl ?_ | refine ld hO 1 rfl rfl ?_ | refine ld hO 2 rfl rfl ?_ | refine ld hO 3 rfl rfl ?_ | refine ld hO 4 rfl rfl ?_ | refine ld hO 5 rfl rfl ?_)
      by_cases h2 : c.kind = 2
      · rw [if_pos h2] at had
        repeat (first | refine oi ?_ | refine ow ?_ | refine wy ?_ | refine wn ?_ | refine wt ?_ | refine wf' ?_ | refine cy ?_ | refine cn ?_ | refine ld hO 0 rfl rfl ?_ | refine ld hO 1 rfl rfl ?_ | refine ld hO 2 rfl rfl ?_ | refine ld hO 3 rfl rfl ?_ | refine ld hO 4 rfl rfl ?_ | refine ld hO 5 rfl rfl ?_)
        refine store1_at hO (Γ.length + 0) (at_r rfl) rfl (show 72 < 75 by omega) (show _ = tbC { t' with act := c.n } from rfl) ?_
        intro H hO
        have hO := hO.set_r
        repeat (first | refine oi ?_ | refine ow ?_ | refine wy ?_ | refine wn ?_ | refine wt ?_ | refine wf' ?_ | refine cy ?_ | refine cn ?_ | refine ld hO 0 rfl rfl ?_ | refine ld hO 1 rfl rfl ?_ | refine ld hO 2 rfl rfl ?_ | refine ld hO 3 rfl rfl ?_ | refine ld hO 4 rfl rfl ?_ | refine ld hO 5 rfl rfl ?_)
        exact ⟨_, by omega, y + 1, _, by omega, rfl, rfl, hO.keep 2, had⟩
      · rw [if_neg h2] at had
        repeat (first | refine oi ?_ | refine ow ?_ | refine wy ?_ | refine wn ?_ | refine wt ?_ | refine wf' ?_ | refine cy ?_ | refine cn ?_ | refine ld hO 0 rfl rfl ?_ | refine ld hO 1 rfl rfl ?_ | refine ld hO 2 rfl rfl ?_ | refine ld hO 3 rfl rfl ?_ | refine ld hO 4 rfl rfl ?_ | refine ld hO 5 rfl rfl ?_)
        by_cases h3 : c.kind = 3
        · rw [if_pos h3] at had
          repeat (first | refine oi ?_ | refine ow ?_ | refine wy ?_ | refine wn ?_ | refine wt ?_ | refine wf' ?_ | refine cy ?_ | refine cn ?_ | refine ld hO 0 rfl rfl ?_ | refine ld hO 1 rfl rfl ?_ | refine ld hO 2 rfl rfl ?_ | refine ld hO 3 rfl rfl ?_ | refine ld hO 4 rfl rfl ?_ | refine ld hO 5 rfl rfl ?_)
          refine store1_at hO (Γ.length + 0) (at_r rfl) rfl (show 73 < 75 by omega) (show _ = tbC { t' with boo := c.n } from rfl) ?_
          intro H hO
          have hO := hO.set_r
          repeat (first | refine oi ?_ | refine ow ?_ | refine wy ?_ | refine wn ?_ | refine wt ?_ | refine wf' ?_ | refine cy ?_ | refine cn ?_ | refine ld hO 0 rfl rfl ?_ | refine ld hO 1 rfl rfl ?_ | refine ld hO 2 rfl rfl ?_ | refine ld hO 3 rfl rfl ?_ | refine ld hO 4 rfl rfl ?_ | refine ld hO 5 rfl rfl ?_)
          exact ⟨_, by omega, y + 1, _, by omega, rfl, rfl, hO.keep 2, had⟩
        · rw [if_neg h3] at had
          have h4 : c.kind = 4 := by omega
          repeat (first | refine oi ?_ | refine ow ?_ | refine wy ?_ | refine wn ?_ | refine wt ?_ | refine wf' ?_ | refine cy ?_ | refine cn ?_ | refine ld hO 0 rfl rfl ?_ | refine ld hO 1 rfl rfl ?_ | refine ld hO 2 rfl rfl ?_ | refine ld hO 3 rfl rfl ?_ | refine ld hO 4 rfl rfl ?_ | refine ld hO 5 rfl rfl ?_)
          refine wIf_dec (fun h5 => ?_) (fun h5 => ?_)
          · rw [if_pos h5] at had
            rw [had] at hk
            refine opP_i b29 ?_
            refine storeAll_at hO (Γ.length + 1) (at_r rfl) rfl rfl rfl ?_
            intro H hO
            have hO := hO.set_r
            try simp only [nth_zero, nth_succ]
            refine loadAll_at hO (Γ.length + 1) (at_r rfl) rfl (by omega) ?_
            exact hk _ hO.left
          · rw [if_neg h5] at had
            repeat (first | refine oi ?_ | refine ow ?_ | refine wy ?_ | refine wn ?_ | refine wt ?_ | refine wf' ?_ | refine cy ?_ | refine cn ?_ | refine ld hO 0 rfl rfl ?_ | refine ld hO 1 rfl rfl ?_ | refine ld hO 2 rfl rfl ?_ | refine ld hO 3 rfl rfl ?_ | refine ld hO 4 rfl rfl ?_ | refine ld hO 5 rfl rfl ?_)
            refine store1_at hO (Γ.length + 0) (at_r rfl) rfl (show 74 < 75 by omega) (show _ = tbC { t' with flo := c.ver } from rfl) ?_
            intro H hO
            have hO := hO.set_r
            repeat (first | refine oi ?_ | refine ow ?_ | refine wy ?_ | refine wn ?_ | refine wt ?_ | refine wf' ?_ | refine cy ?_ | refine cn ?_ | refine ld hO 0 rfl rfl ?_ | refine ld hO 1 rfl rfl ?_ | refine ld hO 2 rfl rfl ?_ | refine ld hO 3 rfl rfl ?_ | refine ld hO 4 rfl rfl ?_ | refine ld hO 5 rfl rfl ?_)
            exact ⟨_, by omega, y + 1, _, by omega, rfl, rfl, hO.keep 2, had⟩
  · have e : y = l.length := by omega
    subst e
    rw [List.drop_of_length_le (Nat.le_refl _)] at ha
    rw [show apL t l = some t' from ha] at hk
    repeat (first | refine oi ?_ | refine ow ?_ | refine wy ?_ | refine wn ?_ | refine wt ?_ | refine wf' ?_ | refine cy ?_ | refine cn ?_)
    try simp only [nth_zero, nth_succ]
    refine loadAll_at hO (Γ.length + 0) (at_r rfl) rfl (by omega) ?_
    refine storeAll_at hO (Γ.length + 1) (at_r rfl) rfl rfl rfl ?_
    intro H hO
    have hO := hO.set_r
    refine loadAll_at hO (Γ.length + 1) (at_r rfl) rfl (by omega) ?_
    exact hk _ hO.left
end
variable {H : Heap} {Γ : List (Nat × Blk)} {K : Value → Heap → Prop}
structure Sd where
  kind : Int
  i : Int
  s : Sl
section
variable {t : Tb} {a : Sd}
theorem Tb.put_flo {i : Int} {s : Sl} : (t.put i s).flo = t.flo := by unfold Tb.put; split <;> rfl
theorem TRight.put {i : Int} {s : Sl} (h : TRight t) (hs : SRight s) : TRight (t.put i s) := by
  unfold TRight Tb.put at *
  split
  · exact ⟨hs, h.2⟩
  · exact ⟨h.1, hs, h.2.2⟩
def Goes (t : Tb) (c : Ch) : Prop := CRight c ∧ (c.kind = 4 → t.flo ≤ c.ver)
theorem ap1_ok {c : Ch} (h : TRight t) (hc : Goes t c) : ∃ t', ap1 t c = some t' ∧ TRight t' ∧ t.flo ≤ t'.flo := by
  obtain ⟨hc, hf⟩ := hc
  unfold ap1
  by_cases h1 : c.kind = 1
  · rw [if_pos h1]
    refine ⟨_, rfl, h.put ?_, by rw [Tb.put_flo]; omega⟩
    rcases hc with h | h | h | h
    · exact h.2.1.2
    all_goals omega
  rw [if_neg h1]
  by_cases h2 : c.kind = 2
  · rw [if_pos h2]
    refine ⟨_, rfl, ⟨h.1, h.2.1, ?_, h.2.2.2⟩, by show t.flo ≤ t.flo; omega⟩
    rcases hc with h | h | h | h
    · omega
    · exact h.2.1
    all_goals omega
  rw [if_neg h2]
  by_cases h3 : c.kind = 3
  · rw [if_pos h3]
    refine ⟨_, rfl, ⟨h.1, h.2.1, h.2.2.1, ?_, h.2.2.2.2⟩, by show t.flo ≤ t.flo; omega⟩
    rcases hc with h | h | h | h
    · omega
    · omega
    · exact h.2.1
    · omega
  rw [if_neg h3]
  have h4 : c.kind = 4 := by rcases hc with h | h | h | h <;> omega
  have := hf h4
  rw [if_neg (by omega)]
  refine ⟨_, rfl, ⟨h.1, h.2.1, h.2.2.1, h.2.2.2.1, ?_⟩, by show t.flo ≤ c.ver; omega⟩
  rcases hc with h | h | h | h
  · omega
  · omega
  · omega
  · exact h.2.1
theorem slz_right {st : Int} (h : st = 0 ∨ st = 1 ∨ st = 4) : SRight (slz st) := .inl ⟨h, rfl, rfl, rfl, eqCells_self (fitD _)⟩
def Goal (t : Tb) (l : List Ch) (Q : Tb → Prop) : Prop := TOk l ∧ ∃ t', apL t l = some t' ∧ TRight t' ∧ t.flo ≤ t'.flo ∧ Q t'
theorem Goal.nil {Q : Tb → Prop} (h : TRight t) (hq : Q t) : Goal t [] Q := ⟨⟨by simp, by simp⟩, t, rfl, h, by omega, hq⟩
theorem Goal.cons {Q : Tb → Prop} {c : Ch} {l : List Ch} (h : TRight t) (hc : Goes t c) (hl : l.length ≤ 7) (hn : ∀ t', ap1 t c = some t' → TRight t' → t.flo ≤ t'.flo → Goal t' l Q) : Goal t (c :: l) Q := by
  obtain ⟨t1, e1, r1, f1⟩ := ap1_ok h hc
  obtain ⟨ho, t2, e2, r2, f2, hq⟩ := hn t1 e1 r1 f1
  refine ⟨⟨by simp; omega, ?_⟩, t2, ?_, r2, by omega, hq⟩
  · intro c' h'
    rcases List.mem_cons.1 h' with rfl | h'
    · exact hc.1
    · exact ho.2 _ h'
  · show (match ap1 t c with | some t' => apL t' l | none => none) = some t2
    rw [e1]; exact e2
def G3 (t : Tb) : Prop := t.a.st = 3 ∨ t.b.st = 3
theorem G3.put {i : Int} {s : Sl} (h : G3 t) (hi : Ix i) (hn : s.st = 3 ∨ (t.sl i).st ≠ 3 ∨ (t.sl (1 - i)).st = 3) : G3 (t.put i s) := by
  unfold G3 Tb.put Tb.sl at *
  rcases hi with rfl | rfl
  · simp at *; omega
  · simp at *; omega
end
end J
set_option linter.unusedVariables false
set_option maxRecDepth 100000
namespace J
open Go Go.Ab
theorem shp_structH {P : Program} {t : TypeId} {fs : Array Field} (ht : P.underlying t = some (.struct fs)) {ts : List TypeId} {N : Nat} {c : List Value} {b : List (List Value)} (h : ShpL P (t :: ts) N c b) : ShpL P (fs.toList.map (·.type) ++ ts) N c b := by
  cases h with
  | struct hu h => rw [ht] at hu; cases hu; exact h
  | array hu _ => rw [ht] at hu; cases hu
  | int v hu _ _ => rw [ht] at hu; cases hu
  | bool v hu _ => rw [ht] at hu; cases hu
  | str v hu _ _ => rw [ht] at hu; cases hu
  | slNil hu _ => rw [ht] at hu; cases hu
  | sl len hu _ _ _ _ => rw [ht] at hu; cases hu
theorem shp_arrayH {P : Program} {t e : TypeId} {n : Nat} (ht : P.underlying t = some (.array n e)) {ts : List TypeId} {N : Nat} {c : List Value} {b : List (List Value)} (h : ShpL P (t :: ts) N c b) : ShpL P (List.replicate n e ++ ts) N c b := by
  cases h with
  | array hu h => rw [ht] at hu; cases hu; exact h
  | struct hu _ => rw [ht] at hu; cases hu
  | int v hu _ _ => rw [ht] at hu; cases hu
  | bool v hu _ => rw [ht] at hu; cases hu
  | str v hu _ _ => rw [ht] at hu; cases hu
  | slNil hu _ => rw [ht] at hu; cases hu
  | sl len hu _ _ _ _ => rw [ht] at hu; cases hu
theorem dgC_eq (xs : List Int) (h : xs.length = 32) : xs.map (Value.int .u8) = dgC (fun i => xs.getD i 0) := by
  apply List.ext_getElem?
  intro j
  have e : dgC (fun i => xs.getD i 0) = (List.range 32).map fun i => Value.int .u8 (xs.getD i 0) := rfl
  rw [e]
  by_cases hj : j < 32
  · simp [hj, h, List.getElem?_eq_getElem (show j < xs.length by omega)]
  · rw [List.getElem?_eq_none (by simp; omega), List.getElem?_eq_none (by simp; omega)]
end J
set_option linter.unusedVariables false
set_option maxRecDepth 100000
namespace J
open Go Go.Ab
variable {H : Heap} {Γ : List (Nat × Blk)} {K : Value → Heap → Prop} {v w x : Value} {xs ys : List Int}
section
variable {s : Sl} {t : Tb}
def dgL (g : Nat → Int) : List Int := (List.range 32).map g
def sBy (s : Sl) : List Int := leN 1 s.st.toNat ++ leN 1 s.tr.toNat ++ leN 8 s.ver.toNat ++ leN 4 s.sz.toNat ++ dgL s.dg
def sBy' (s : Sl) : List Int := if SRight s then sBy s else []
theorem SRight.nn {s : Sl} (h : SRight s) : (0 ≤ s.st ∧ s.st ≤ 4) ∧ (0 ≤ s.tr ∧ s.tr ≤ 7) ∧ (0 ≤ s.ver ∧ s.ver ≤ 281474976710656) ∧ (0 ≤ s.sz ∧ s.sz ≤ 65536) := by
  rcases h with ⟨h, h2⟩ | ⟨h, h2, h3⟩ | ⟨h, h2, h3⟩
  · obtain ⟨a, b, c, _⟩ := h2; omega
  · obtain ⟨a, b, c, d⟩ := h3; omega
  · obtain ⟨a, b, c, d⟩ := h3; omega
theorem sBy_len : (sBy s).length = 46 := by simp [sBy, leN_len, dgL]
theorem sBy'_len : (sBy' s).length ≤ 46 := by unfold sBy'; split; rw [sBy_len]; omega; simp
theorem dg_rd {p : Nat} {B : List (Nat × Blk)} : RdB (Γ ++ ((p, ⟨slC s, true⟩) :: B)) (sl p 4 32 3) (dgL s.dg) :=
  .inr ⟨p, 4, 3, rfl, .inr rfl, .inr ⟨Γ.length + 0, ⟨slC s, true⟩, at_r rfl, rfl⟩⟩
set_option maxHeartbeats 2000000 in
theorem slot_Bytes_spec (hO : St H Γ) (hk : MadeB Γ K (sBy' s)) : wCall P n_slot_Bytes [agg (slC s)] H K := by
  apply slot_Bytes_ok; unfold slot_Bytes
  refine new_at hO ?_
  intro p H hO
  refine loadAll_at hO (Γ.length + 0) (at_r rfl) rfl (by omega) ?_
  refine slot_Right_spec hO ?_
  intro H hO
  by_cases hr : SRight s
  · rw [decide_eq_true hr]
    unfold sBy' at hk
    rw [if_pos hr] at hk
    obtain ⟨n1, n2, n3, n4⟩ := hr.nn
    repeat (first | refine oi ?_ | refine ow ?_ | refine wy ?_ | refine wn ?_ | refine wt ?_ | refine wf' ?_ | refine cy ?_ | refine cn ?_ | refine ld hO 0 rfl rfl ?_ | refine ld hO 1 rfl rfl ?_ | refine ld hO 2 rfl rfl ?_ | refine ld hO 3 rfl rfl ?_ | refine ld hO 4 rfl rfl ?_ | refine ld hO 5 rfl rfl ?_)
    refine opW_i (cvIU (by omega) (by omega)) ?_
    refine Fixed_spec (size := 1) (xs := []) hO .nil (by simp) (by omega) (by omega) ?_
    intro H2 v1 c1 hO2 h1
    replace hO2 := hO2.tail1
    repeat (first | refine oi ?_ | refine ow ?_ | refine wy ?_ | refine wn ?_ | refine wt ?_ | refine wf' ?_ | refine cy ?_ | refine cn ?_)
    refine load_at hO2 (Γ.length + 0) (at_r rfl) rfl ?_
    refine ⟨same_at hO (Γ.length + 0) (at_r rfl) hO2 (Γ.length + 0) (at_r rfl) rfl, ?_⟩
    clear hO
    refine opW_i (cvIU (by omega) (by omega)) ?_
    refine Fixed_spec (size := 1) hO2 h1.rd.tl (by simp [leN_len]) (by omega) (by omega) ?_
    clear hO2
    intro H v2 c2 hO h2
    replace hO := hO.tail1
    repeat (first | refine oi ?_ | refine ow ?_ | refine wy ?_ | refine wn ?_ | refine wt ?_ | refine wf' ?_ | refine cy ?_ | refine cn ?_ | refine ld hO 0 rfl rfl ?_ | refine ld hO 1 rfl rfl ?_ | refine ld hO 2 rfl rfl ?_ | refine ld hO 3 rfl rfl ?_ | refine ld hO 4 rfl rfl ?_ | refine ld hO 5 rfl rfl ?_)
    rw [uint_of n3.1]
    refine Fixed_spec (size := 8) hO h2.rd.tl (by simp [leN_len]) (by omega) (by omega) ?_
    intro H2 v3 c3 hO2 h3
    replace hO2 := hO2.tail1
    repeat (first | refine oi ?_ | refine ow ?_ | refine wy ?_ | refine wn ?_ | refine wt ?_ | refine wf' ?_ | refine cy ?_ | refine cn ?_)
    refine load_at hO2 (Γ.length + 0) (at_r rfl) rfl ?_
    refine ⟨same_at hO (Γ.length + 0) (at_r rfl) hO2 (Γ.length + 0) (at_r rfl) rfl, ?_⟩
    clear hO
    refine opW_i (cvIU (by omega) (by omega)) ?_
    refine Fixed_spec (size := 4) hO2 h3.rd.tl (by simp [leN_len]) (by omega) (by omega) ?_
    clear hO2
    intro H v4 c4 hO h4
    replace hO := hO.tail1
    repeat (first | refine oi ?_ | refine ow ?_ | refine wy ?_ | refine wn ?_ | refine wt ?_ | refine wf' ?_ | refine cy ?_ | refine cn ?_)
    refine opP_i (slice_arr hO (Γ.length + 0) (at_r rfl) (by omega) (show 4 + 32 ≤ (slC s).length from Nat.le_refl _)) ?_
    refine newSl_at hO (bs65_1 _ _ _ _) ?_
    intro q H hO
    refine Raw_spec hO h4.rd.tl.app ⟨q, 3, (Γ ++ ((p, ⟨slC s, true⟩) :: outB v4 c4)).length, true, rfl, by simp⟩ dg_rd.app (by simp [leN_len, dgL]) ?_
    intro H v5 c5 hO h5
    refine hk _ v5 c5 ?_ h5
    exact hO.sub (List.Sublist.append ((List.sublist_append_left _ _).trans (List.sublist_append_left _ _)) (List.Sublist.refl _))
  · rw [decide_eq_false hr]
    unfold sBy' at hk
    rw [if_neg hr] at hk
    repeat (first | refine oi ?_ | refine ow ?_ | refine wy ?_ | refine wn ?_ | refine wt ?_ | refine wf' ?_ | refine cy ?_ | refine cn ?_ | refine ld hO 0 rfl rfl ?_ | refine ld hO 1 rfl rfl ?_ | refine ld hO 2 rfl rfl ?_ | refine ld hO 3 rfl rfl ?_ | refine ld hO 4 rfl rfl ?_ | refine ld hO 5 rfl rfl ?_)
    exact hk.none hO.left
def tBy (t : Tb) : List Int := if TRight t then sBy t.a ++ sBy t.b ++ leN 1 t.act.toNat ++ leN 1 (t.boo + 1).toNat ++ leN 8 t.flo.toNat else []
end
end J
set_option linter.unusedVariables false
set_option maxRecDepth 100000
namespace J
open Go Go.Ab
variable {H : Heap} {Γ : List (Nat × Blk)} {K : Value → Heap → Prop} {v w x : Value} {xs ys : List Int}
section
variable {s : Sl} {t : Tb}
theorem sBy'_right (h : SRight s) : sBy' s = sBy s := if_pos h
theorem Raw_two {y : Nat × Blk} {A B : List (Nat × Blk)} {cs : List Value} (hO : St H ((Γ ++ (y :: A)) ++ outB x cs)) (hv : RdB A v xs) (hx : OwnB x ys cs) (hl : xs.length + ys.length ≤ 10000000)
    (hk : ∀ H' v' cs', St H' (Γ ++ (y :: outB v' cs')) → OwnB v' (xs ++ ys) cs' → K v' H') : opW ((buildSliceC P 65 1).f [(0, x)] H) fun t H' => wCall P n_code_Raw [v, t] H' K := by
  obtain ⟨a, n, c, e⟩ := hx.rd.shape
  refine newSl_at hO (show (buildSliceC P 65 1).f [(0, x)] H = some (sl H.next 0 1 3, H.push [x]) by rw [e]; exact bs65_1 _ _ _ _) ?_
  intro q H hO
  refine Raw_spec hO hv.tl.app.app ⟨q, 3, ((Γ ++ (y :: A)) ++ outB x cs).length, true, rfl, by simp⟩ hx.rd.app'.app hl ?_
  intro H v5 c5 hO h5
  refine hk _ v5 c5 ?_ h5
  exact St.tail1 (A := A) (hO.sub (List.Sublist.append ((List.sublist_append_left _ _).trans (List.sublist_append_left _ _)) (List.Sublist.refl _)))
set_option maxHeartbeats 2000000 in
theorem table_Bytes_spec (hO : St H Γ) (hf : 0 ≤ t.flo) (hk : MadeB Γ K (tBy t)) : wCall P n_table_Bytes [agg (tbC t)] H K := by
  apply table_Bytes_ok; unfold table_Bytes
  refine new_at hO ?_
  intro p H hO
  refine loadAll_at hO (Γ.length + 0) (at_r rfl) rfl (by omega) ?_
  refine table_Right_spec hO ?_
  intro H hO
  by_cases hr : TRight t
  · rw [decide_eq_true hr]
    unfold tBy at hk
    rw [if_pos hr] at hk
    have n1 := hr.1.nn
    have n2 := hr.2.1.nn
    have n3 := hr.2.2.1.bd
    have n4 : -1 ≤ t.boo ∧ t.boo ≤ 1 := by rcases hr.2.2.2.1 with h | h; omega; have := h.bd; omega
    have n5 := hr.2.2.2.2
    repeat (first | refine oi ?_ | refine ow ?_ | refine wy ?_ | refine wn ?_ | refine wt ?_ | refine wf' ?_ | refine cy ?_ | refine cn ?_ | refine ld hO 0 rfl rfl ?_ | refine ld hO 1 rfl rfl ?_ | refine ld hO 2 rfl rfl ?_ | refine ld hO 3 rfl rfl ?_ | refine ld hO 4 rfl rfl ?_ | refine ld hO 5 rfl rfl ?_)
    refine loadAgg_at hO (Γ.length + 0) (at_r rfl) (show _ = slC t.a from rfl) rfl (by omega) ?_
    refine slot_Bytes_spec hO ?_
    rw [sBy'_right hr.1]
    intro H2 v1 c1 hO2 h1
    replace hO2 := hO2.tail1
    repeat (first | refine oi ?_ | refine ow ?_ | refine wy ?_ | refine wn ?_ | refine wt ?_ | refine wf' ?_ | refine cy ?_ | refine cn ?_ | refine ld hO 0 rfl rfl ?_ | refine ld hO 1 rfl rfl ?_ | refine ld hO 2 rfl rfl ?_ | refine ld hO 3 rfl rfl ?_ | refine ld hO 4 rfl rfl ?_ | refine ld hO 5 rfl rfl ?_)
    refine loadAgg_at hO2 (Γ.length + 0) (at_r rfl) (show _ = slC t.b from rfl) rfl (by omega) ?_
    refine ⟨same_at hO (Γ.length + 0) (at_r rfl) hO2 (Γ.length + 0) (at_r rfl) rfl, ?_⟩
    refine slot_Bytes_spec hO2 ?_
    rw [sBy'_right hr.2.1]
    clear hO hO2
    intro H v2 c2 hO h2
    refine Raw_two (B := []) hO h1.rd h2 (by simp [sBy_len]) ?_
    clear hO
    intro H v3 c3 hO h3
    repeat (first | refine oi ?_ | refine ow ?_ | refine wy ?_ | refine wn ?_ | refine wt ?_ | refine wf' ?_ | refine cy ?_ | refine cn ?_)
    refine load_at hO (Γ.length + 0) (at_r rfl) rfl ?_
    refine opW_i (cvIU (by omega) (by omega)) ?_
    refine Fixed_spec (size := 1) hO h3.rd.tl (by simp [sBy_len]) (by omega) (by omega) ?_
    intro H2 v4 c4 hO2 h4
    replace hO2 := hO2.tail1
    repeat (first | refine oi ?_ | refine ow ?_ | refine wy ?_ | refine wn ?_ | refine wt ?_ | refine wf' ?_ | refine cy ?_ | refine cn ?_)
    refine load_at hO2 (Γ.length + 0) (at_r rfl) rfl ?_
    refine ⟨same_at hO (Γ.length + 0) (at_r rfl) hO2 (Γ.length + 0) (at_r rfl) rfl, ?_⟩
    clear hO
    repeat (first | refine oi ?_ | refine ow ?_ | refine wy ?_ | refine wn ?_ | refine wt ?_ | refine wf' ?_ | refine cy ?_ | refine cn ?_)
    rw [show t.boo - -1 = t.boo + 1 by omega]
    refine opW_i (cvIU (by omega) (by omega)) ?_
    refine Fixed_spec (size := 1) hO2 h4.rd.tl (by simp [sBy_len, leN_len]) (by omega) (by omega) ?_
    clear hO2
    intro H v5 c5 hO h5
    replace hO := hO.tail1
    repeat (first | refine oi ?_ | refine ow ?_ | refine wy ?_ | refine wn ?_ | refine wt ?_ | refine wf' ?_ | refine cy ?_ | refine cn ?_)
    refine load_at hO (Γ.length + 0) (at_r rfl) rfl ?_
    rw [uint_of hf]
    refine Fixed_spec (size := 8) hO h5.rd.tl (by simp [sBy_len, leN_len]) (by omega) (by omega) ?_
    intro H v6 c6 hO h6
    refine hk _ v6 c6 ?_ h6
    exact hO.sub (List.Sublist.append (List.sublist_append_left _ _) (List.Sublist.refl _))
  · rw [decide_eq_false hr]
    unfold tBy at hk
    rw [if_neg hr] at hk
    repeat (first | refine oi ?_ | refine ow ?_ | refine wy ?_ | refine wn ?_ | refine wt ?_ | refine wf' ?_ | refine cy ?_ | refine cn ?_ | refine ld hO 0 rfl rfl ?_ | refine ld hO 1 rfl rfl ?_ | refine ld hO 2 rfl rfl ?_ | refine ld hO 3 rfl rfl ?_ | refine ld hO 4 rfl rfl ?_ | refine ld hO 5 rfl rfl ?_)
    exact hk.none hO.left
end
end J
set_option linter.unusedVariables false
set_option maxRecDepth 100000
namespace J
open Go Go.Ab
variable {H : Heap} {Γ : List (Nat × Blk)} {K : Value → Heap → Prop} {v w x : Value} {xs ys : List Int}
section
variable {s : Sl} {t : Tb} {c : Ch} {l : List Ch}
def cBy (c : Ch) : List Int := leN 1 c.kind.toNat ++ (if c.kind = 1 then leN 1 c.slot.toNat ++ sBy' c.to else if c.kind = 2 then leN 1 c.n.toNat else if c.kind = 3 then leN 1 (c.n + 1).toNat else leN 8 c.ver.toNat)
def lBy (l : List Ch) : List Int := if TOk l then leN 1 l.length ++ l.flatMap cBy else []
theorem cBy_len (c : Ch) : (cBy c).length ≤ 48 := by
  unfold cBy
  have := sBy'_len (s := c.to)
  simp only [List.length_append, leN_len]
  split
  · simp [leN_len]; omega
  · split
    · simp [leN_len]
    · split <;> simp [leN_len]
theorem cBys_len : ∀ l : List Ch, (l.flatMap cBy).length ≤ l.length * 48
  | [] => by simp
  | c :: l => by
    have h1 := cBy_len c
    have h2 := cBys_len l
    simp only [List.flatMap_cons, List.length_append, List.length_cons]
    omega
theorem take_by {y : Nat} (h : y < l.length) : (l.take (y + 1)).flatMap cBy = (l.take y).flatMap cBy ++ cBy l[y] := by
  rw [List.take_succ_eq_append_getElem h, List.flatMap_append]; simp
theorem St.flip {A : List (Nat × Blk)} {y : Nat × Blk} (h : St H ((Γ ++ A) ++ [y])) : St H (Γ ++ (y :: A)) := h.perm (by
  rw [List.append_assoc]
  exact List.Perm.append_left Γ List.perm_append_comm)
set_option maxHeartbeats 4000000 in
theorem table_Put_spec (hO : St H Γ) (hv : RdC Γ v l) (hl : l.length ≤ 1000) (hver : ∀ c ∈ l, 0 ≤ c.ver) (hk : MadeB Γ K (lBy l)) : wCall P n_table_Put [v] H K := by
  apply table_Put_ok; unfold table_Put
  refine table_transaction_spec hO hv (by omega) ?_
  intro H hO
  by_cases hok : TOk l
  · rw [decide_eq_true hok]
    unfold lBy at hk
    rw [if_pos hok] at hk
    repeat (first | refine oi ?_ | refine ow ?_ | refine wy ?_ | refine wn ?_ | refine wt ?_ | refine wf' ?_ | refine cy ?_ | refine cn ?_)
    refine opW_i (by rw [hv.1]) ?_
    refine opW_i (cvIU (by omega) (by omega)) ?_
    rw [Int.toNat_natCast]
    refine Fixed_spec (size := 1) (xs := []) hO .nil (by simp) (by omega) (by omega) ?_
    intro H v1 c1 hO h1
    refine opW_i (by rw [hv.1]) ?_
    refine table_Put_L0_ind (fun k l' H' => ∃ (y : Nat) (v' : Value) (cs' : List Value), y ≤ l.length ∧ k = l.length - y ∧ l' = [nilSl, v', v, int l.length, int y] ∧ St H' (Γ ++ outB v' cs') ∧ OwnB v' (leN 1 l.length ++ (l.take y).flatMap cBy) cs') _ _ ?_ l.length _ _ ⟨0, v1, c1, by omega, by omega, rfl, hO, by simpa using h1⟩
    clear hO h1
    rintro k l' H' ⟨y, v', cs', hy, rfl, rfl, hO, hv'⟩
    unfold table_Put_L0
    try simp only [nth_zero, nth_succ]
    repeat (first | refine oi ?_ | refine ow ?_ | refine wy ?_ | refine wn ?_ | refine wt ?_ | refine wf' ?_ | refine cy ?_ | refine cn ?_)
    refine wIf_dec (fun h2 => ?_) (fun h2 => ?_)
    · rcases hv.2 with rfl | ⟨pv, cp, j, rfl, w, hj⟩
      · simp at h2; omega
      have hyl : y < l.length := by omega
      have e : 0 + ((y : Nat) : Int).toNat * 40 = y * 40 := by rw [Int.toNat_natCast]; omega
      have hcr := hok.2 _ (List.getElem_mem hyl)
      have hvr := hver _ (List.getElem_mem hyl)
      have hlen := cBys_len (l.take y)
      rw [List.length_take, Nat.min_eq_left (by omega)] at hlen
      have hend : leN 1 l.length ++ (l.take (y + 1)).flatMap cBy = leN 1 l.length ++ (l.take y).flatMap cBy ++ cBy l[y] := by rw [take_by hyl, List.append_assoc]
      have hlen' : (leN 1 l.length ++ (l.take y).flatMap cBy).length ≤ 60000 := by rw [List.length_append, leN_len]; omega
      generalize leN 1 l.length ++ (l.take y).flatMap cBy = xs at *
      repeat (first | refine oi ?_ | refine ow ?_ | refine wy ?_ | refine wn ?_ | refine wt ?_ | refine wf' ?_ | refine cy ?_ | refine cn ?_)
      refine loadAgg_at hO j (at_l hj) (show _ = chC l[y] from ?_) rfl (by omega) ?_
      · rw [e]; exact chs_at l y hyl
      rw [zc58]
      refine new_at hO ?_
      intro b H hO
      generalize l[y] = c at *
      replace hO := St.flip hO
      refine storeAll_at hO (Γ.length + 0) (at_r rfl) rfl rfl rfl ?_
      intro H hO
      replace hO : St H (Γ ++ ((b, ⟨chC c, true⟩) :: outB v' cs')) := hO.set_r
      have hkd : 1 ≤ c.kind ∧ c.kind ≤ 4 := by rcases hcr with h | h | h | h <;> omega
      have fin : ∀ (H' : Heap) (v'' : Value) (cs'' : List Value) (A : List (Nat × Blk)), St H' ((Γ ++ A) ++ outB v'' cs'') → OwnB v'' (xs ++ cBy c) cs'' → ∃ k', k' < l.length - y ∧ ∃ (z : Nat) (v' : Value) (cs' : List Value), z ≤ l.length ∧ k' = l.length - z ∧ [nilSl, v'', sl pv 0 l.length cp, int l.length, int ((y : Int) + 1)] = [nilSl, v', sl pv 0 l.length cp, int l.length, int z] ∧ St H' (Γ ++ outB v' cs') ∧ OwnB v' (leN 1 l.length ++ (l.take z).flatMap cBy) cs' := fun H' v'' cs'' A hO' h'' => ⟨_, by omega, y + 1, v'', cs'', by omega, rfl, rfl, St.mid hO', by rw [hend]; exact h''⟩
      rw [show cBy c = leN 1 c.kind.toNat ++ (if c.kind = 1 then leN 1 c.slot.toNat ++ sBy' c.to else if c.kind = 2 then leN 1 c.n.toNat else if c.kind = 3 then leN 1 (c.n + 1).toNat else leN 8 c.ver.toNat) from rfl] at fin
      repeat (first | refine oi ?_ | refine ow ?_ | refine wy ?_ | refine wn ?_ | refine wt ?_ | refine wf' ?_ | refine cy ?_ | refine cn ?_ | refine ld hO 0 rfl rfl ?_ | refine ld hO 1 rfl rfl ?_ | refine ld hO 2 rfl rfl ?_ | refine ld hO 3 rfl rfl ?_ | refine ld hO 4 rfl rfl ?_ | refine ld hO 5 rfl rfl ?_)
      refine opW_i (cvIU (by omega) (by omega)) ?_
      refine Fixed_spec (size := 1) hO hv'.rd.tl (by omega) (by omega) (by omega) ?_
      intro H v2 c2 hO h2
      replace hO := hO.tail1
      repeat (first | refine oi ?_ | refine ow ?_ | refine wy ?_ | refine wn ?_ | refine wt ?_ | refine wf' ?_ | refine cy ?_ | refine cn ?_ | refine ld hO 0 rfl rfl ?_ | refine ld hO 1 rfl rfl ?_ | refine ld hO 2 rfl rfl ?_ | refine ld hO 3 rfl rfl ?_ | refine ld hO 4 rfl rfl ?_ | refine ld hO 5 rfl rfl ?_)
      unfold CRight at hcr
      by_cases k1 : c.kind = 1
      · rw [if_pos k1] at fin
        have hi : Ix c.slot ∧ SRight c.to := by rcases hcr with h | h | h | h; exact h.2.1; all_goals omega
        have hib := hi.1.bd
        repeat (first | refine oi ?_ | refine ow ?_ | refine wy ?_ | refine wn ?_ | refine wt ?_ | refine wf' ?_ | refine cy ?_ | refine cn ?_ | refine ld hO 0 rfl rfl ?_ | refine ld hO 1 rfl rfl ?_ | refine ld hO 2 rfl rfl ?_ | refine ld hO 3 rfl rfl ?_ | refine ld hO 4 rfl rfl ?_ | refine ld hO 5 rfl rfl ?_)
        refine opW_i (cvIU (by omega) (by omega)) ?_
        refine Fixed_spec (size := 1) hO h2.rd.tl (by simp [leN_len]; omega) (by omega) (by omega) ?_
        intro H2 v3 c3 hO2 h3
        replace hO2 := hO2.tail1
        repeat (first | refine oi ?_ | refine ow ?_ | refine wy ?_ | refine wn ?_ | refine wt ?_ | refine wf' ?_ | refine cy ?_ | refine cn ?_)
        refine loadAgg_at hO2 (Γ.length + 0) (at_r rfl) (show _ = slC c.to from rfl) rfl (by omega) ?_
        refine ⟨same_at hO (Γ.length + 0) (at_r rfl) hO2 (Γ.length + 0) (at_r rfl) rfl, ?_⟩
        clear hO
        refine slot_Bytes_spec hO2 ?_
        have hl5 := sBy'_len (s := c.to)
        intro H v4 c4 hO h4
        refine Raw_two (B := []) hO h3.rd h4 (by simp [leN_len]; omega) ?_
        intro H v5 c5 hO h5
        repeat (first | refine oi ?_ | refine ow ?_ | refine wy ?_ | refine wn ?_ | refine wt ?_ | refine wf' ?_ | refine cy ?_ | refine cn ?_)
        refine fin _ v5 c5 [(b, ⟨chC c, true⟩)] (by rw [List.append_assoc]; exact hO) ?_
        simpa using h5
      rw [if_neg k1] at fin
      repeat (first | refine oi ?_ | refine ow ?_ | refine wy ?_ | refine wn ?_ | refine wt ?_ | refine wf' ?_ | refine cy ?_ | refine cn ?_ | refine ld hO 0 rfl rfl ?_ | refine ld hO 1 rfl rfl ?_ | refine ld hO 2 rfl rfl ?_ | refine ld hO 3 rfl rfl ?_ | refine ld hO 4 rfl rfl ?_ | refine ld hO 5 rfl rfl ?_)
      by_cases k2 : c.kind = 2
      · rw [if_pos k2] at fin
        have hi : Ix c.n := by rcases hcr with h | h | h | h; omega; exact h.2.1; all_goals omega
        have hib := hi.bd
        repeat (first | refine oi ?_ | refine ow ?_ | refine wy ?_ | refine wn ?_ | refine wt ?_ | refine wf' ?_ | refine cy ?_ | refine cn ?_ | refine ld hO 0 rfl rfl ?_ | refine ld hO 1 rfl rfl ?_ | refine ld hO 2 rfl rfl ?_ | refine ld hO 3 rfl rfl ?_ | refine ld hO 4 rfl rfl ?_ | refine ld hO 5 rfl rfl ?_)
        refine opW_i (cvIU (by omega) (by omega)) ?_
        refine Fixed_spec (size := 1) hO h2.rd.tl (by simp [leN_len]; omega) (by omega) (by omega) ?_
        intro H v3 c3 hO h3
        repeat (first | refine oi ?_ | refine ow ?_ | refine wy ?_ | refine wn ?_ | refine wt ?_ | refine wf' ?_ | refine cy ?_ | refine cn ?_)
        refine fin _ v3 c3 _ hO ?_
        simpa using h3
      rw [if_neg k2] at fin
      repeat (first | refine oi ?_ | refine ow ?_ | refine wy ?_ | refine wn ?_ | refine wt ?_ | refine wf' ?_ | refine cy ?_ | refine cn ?_ | refine ld hO 0 rfl rfl ?_ | refine ld hO 1 rfl rfl ?_ | refine ld hO 2 rfl rfl ?_ | refine ld hO 3 rfl rfl ?_ | refine ld hO 4 rfl rfl ?_ | refine ld hO 5 rfl rfl ?_)
      by_cases k3 : c.kind = 3
      · rw [if_pos k3] at fin
        have hi : -1 ≤ c.n ∧ c.n ≤ 1 := by rcases hcr with h | h | h | h; omega; omega; (rcases h.2.1 with h | h; omega; have := h.bd; omega); omega
        repeat (first | refine oi ?_ | refine ow ?_ | refine wy ?_ | refine wn ?_ | refine wt ?_ | refine wf' ?_ | refine cy ?_ | refine cn ?_ | refine ld hO 0 rfl rfl ?_ | refine ld hO 1 rfl rfl ?_ | refine ld hO 2 rfl rfl ?_ | refine ld hO 3 rfl rfl ?_ | refine ld hO 4 rfl rfl ?_ | refine ld hO 5 rfl rfl ?_)
        rw [show c.n - -1 = c.n + 1 by omega]
        refine opW_i (cvIU (by omega) (by omega)) ?_
        refine Fixed_spec (size := 1) hO h2.rd.tl (by simp [leN_len]; omega) (by omega) (by omega) ?_
        intro H v3 c3 hO h3
        repeat (first | refine oi ?_ | refine ow ?_ | refine wy ?_ | refine wn ?_ | refine wt ?_ | refine wf' ?_ | refine cy ?_ | refine cn ?_)
        refine fin _ v3 c3 _ hO ?_
        simpa using h3
      rw [if_neg k3] at fin
      have k4 : c.kind = 4 := by omega
      have hi : c.ver ≤ 281474976710656 := by rcases hcr with h | h | h | h; omega; omega; omega; exact h.2.1
      repeat (first | refine oi ?_ | refine ow ?_ | refine wy ?_ | refine wn ?_ | refine wt ?_ | refine wf' ?_ | refine cy ?_ | refine cn ?_ | refine ld hO 0 rfl rfl ?_ | refine ld hO 1 rfl rfl ?_ | refine ld hO 2 rfl rfl ?_ | refine ld hO 3 rfl rfl ?_ | refine ld hO 4 rfl rfl ?_ | refine ld hO 5 rfl rfl ?_)
      rw [uint_of hvr]
      refine Fixed_spec (size := 8) hO h2.rd.tl (by simp [leN_len]; omega) (by omega) (by omega) ?_
      intro H v3 c3 hO h3
      repeat (first | refine oi ?_ | refine ow ?_ | refine wy ?_ | refine wn ?_ | refine wt ?_ | refine wf' ?_ | refine cy ?_ | refine cn ?_)
      refine fin _ v3 c3 _ hO ?_
      simpa using h3
    · have e : y = l.length := by omega
      subst e
      rw [List.take_of_length_le (Nat.le_refl _)] at hv'
      repeat (first | refine oi ?_ | refine ow ?_ | refine wy ?_ | refine wn ?_ | refine wt ?_ | refine wf' ?_ | refine cy ?_ | refine cn ?_)
      exact hk _ _ _ hO hv'
  · rw [decide_eq_false hok]
    unfold lBy at hk
    rw [if_neg hok] at hk
    repeat (first | refine oi ?_ | refine ow ?_ | refine wy ?_ | refine wn ?_ | refine wt ?_ | refine wf' ?_ | refine cy ?_ | refine cn ?_)
    exact hk.none hO
end
end J
