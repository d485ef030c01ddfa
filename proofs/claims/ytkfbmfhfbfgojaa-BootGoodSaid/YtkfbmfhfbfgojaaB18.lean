import Derived.Test.YtkfbmfhfbfgojaaB16
import Derived.Test.YtkfbmfhfbfgojaaB11
set_option linter.unusedVariables false
set_option maxRecDepth 100000
namespace B
open Go Go.Ab
theorem shp_saidL : ∀ (n N : Nat) (c : List Value) (b : List (List Value)), ShpL P (List.replicate n 53) N c b → b = [] ∧ ∃ l : List Sd, c = sds l ∧ l.length = n
  | 0, N, c, b, h => by cases h; exact ⟨rfl, [], rfl, rfl⟩
  | n + 1, N, c, b, h => by
    have h : ShpL P (53 :: List.replicate n 53) N c b := h
    have h0 := shp_structH Go.Proofs.Try.underlying53 h
    have h0 : ShpL P (3 :: 3 :: 26 :: List.replicate n 53) N c b := h0
    obtain ⟨x1, c1, e1, _, h1⟩ := shp_int1 (k := .i64) Go.Proofs.Try.underlying3 h0
    obtain ⟨x2, c2, e2, _, h2⟩ := shp_int1 (k := .i64) Go.Proofs.Try.underlying3 h1
    obtain ⟨s, c3, e3, h3⟩ := shp_slot h2
    obtain ⟨hb, l, e4, hl⟩ := shp_saidL n _ _ _ h3
    refine ⟨hb, ⟨x1, x2, s⟩ :: l, ?_, by simp [hl]⟩
    rw [e1, e2, e3, e4]; rfl
theorem arg_said {ts : List TypeId} {N : Nat} {av : List Value} {b : List (List Value)} (h : ArgS P (51 :: ts) N av b) :
    ∃ v vs b1 b2 l, av = v :: vs ∧ b = b1 ++ b2 ∧ RdS (argG N b1) v l ∧ ArgS P ts (N + b1.length) vs b2 := by
  have hu : P.underlying 51 = some (.slice 53) := by kernel_rfl
  obtain ⟨v, vs, b1, b2, e, eb, h1, h2⟩ := arg_one h (by rw [hu]; simp) (by rw [hu]; simp)
  rcases shp_sl hu h1 with ⟨c', e1, h3⟩ | ⟨len, cells, c', bs, b', e1, eb1, hm, hl, h3, h4⟩
  · cases e1
    exact ⟨_, vs, b1, b2, [], e, eb, ⟨rfl, .inl rfl⟩, h2⟩
  · cases e1
    obtain ⟨hb, l, rfl, rfl⟩ := shp_saidL _ _ _ _ h3
    subst hb
    subst eb1
    exact ⟨_, vs, _, b2, l, e, eb, ⟨rfl, .inr ⟨N, _, 0, rfl, rfl⟩⟩, h2⟩
end B
