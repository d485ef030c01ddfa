import Derived.Test.YtccblhllmplmaaaT3
import Derived.Test.YtccblhllmplmaaaAbLaw
import Derived.Test.YtccblhllmplmaaaAbSl3
set_option linter.unusedVariables false
set_option maxRecDepth 100000
namespace T
open Go Go.Ab
theorem shp_structH {P : Program} {t : TypeId} {fs : Array Field} (ht : P.underlying t = some (.struct fs)) {ts : List TypeId} {N : Nat} {c : List Value} {b : List (List Value)} (h : ShpL P (t :: ts) N c b) : ShpL P (fs.toList.map (·.type) ++ ts) N c b := by
  cases h with
  | struct hu h => rw [ht] at hu; cases hu; exact h
  | array hu _ => rw [ht] at hu; cases hu
  | int v hu _ _ => rw [ht] at hu; cases hu
  | bool v hu _ => rw [ht] at hu; cases hu
  | str v hu _ _ => rw [ht] at hu; cases hu
  | slNil hu _ => rw [ht] at hu; cases hu
  | sl len hu _ _ _ _ => rw [ht] at hu; cases hu
theorem shp_arrayH {P : Program} {t e : TypeId} {n : Nat} (ht : P.underlying t = some (.array n e)) {ts : List TypeId} {N : Nat} {c : List Value} {b : List (List Value)} (h : ShpL P (t :: ts) N c b) : ShpL P (List.replicate n e ++ ts) N c b := by
  cases h with
  | array hu h => rw [ht] at hu; cases hu; exact h
  | struct hu _ => rw [ht] at hu; cases hu
  | int v hu _ _ => rw [ht] at hu; cases hu
  | bool v hu _ => rw [ht] at hu; cases hu
  | str v hu _ _ => rw [ht] at hu; cases hu
  | slNil hu _ => rw [ht] at hu; cases hu
  | sl len hu _ _ _ _ => rw [ht] at hu; cases hu
theorem shp_intsH {P : Program} {e : TypeId} {k : IntKind} (he : P.underlying e = some (.int k)) {ts : List TypeId} : ∀ (n N : Nat) (c : List Value) (b : List (List Value)), ShpL P (List.replicate n e ++ ts) N c b → ∃ (xs : List Int) (c' : List Value), xs.length = n ∧ c = xs.map (Value.int k) ++ c' ∧ ShpL P ts N c' b
  | 0, N, c, b, h => ⟨[], c, rfl, rfl, h⟩
  | n + 1, N, c, b, h => by
    obtain ⟨x, c', rfl, _, h1⟩ := shp_int1 he (show ShpL P (e :: (List.replicate n e ++ ts)) N c b from h)
    obtain ⟨xs, c'', hl, rfl, h2⟩ := shp_intsH he n N _ _ h1
    exact ⟨x :: xs, c'', by simp [hl], rfl, h2⟩
theorem dgC_eq (xs : List Int) (h : xs.length = 32) : xs.map (Value.int .u8) = dgC (fun i => xs.getD i 0) := by
  apply List.ext_getElem?
  intro j
  have e : dgC (fun i => xs.getD i 0) = (List.range 32).map fun i => Value.int .u8 (xs.getD i 0) := rfl
  rw [e]
  by_cases hj : j < 32
  · simp [hj, h, List.getElem?_eq_getElem (show j < xs.length by omega)]
  · rw [List.getElem?_eq_none (by simp; omega), List.getElem?_eq_none (by simp; omega)]
theorem shp_slot {ts : List TypeId} {N : Nat} {c : List Value} {b : List (List Value)} (h : ShpL P (34 :: ts) N c b) : ∃ (s : Sl) (c' : List Value), c = slC s ++ c' ∧ ShpL P ts N c' b := by
  have h0 := shp_structH Go.Proofs.Try.underlying34 h
  have h0 : ShpL P (3 :: 3 :: 30 :: 3 :: 32 :: ts) N c b := h0
  obtain ⟨x1, c1, rfl, _, h1⟩ := shp_int1 (k := .i64) Go.Proofs.Try.underlying3 h0
  obtain ⟨x2, c2, rfl, _, h2⟩ := shp_int1 (k := .i64) Go.Proofs.Try.underlying3 h1
  obtain ⟨x3, c3, rfl, _, h3⟩ := shp_int1 (k := .u64) Go.Proofs.Try.underlying30 h2
  obtain ⟨x4, c4, rfl, _, h4⟩ := shp_int1 (k := .i64) Go.Proofs.Try.underlying3 h3
  have h5 := shp_arrayH Go.Proofs.Try.underlying32 h4
  obtain ⟨xs, c', hl, rfl, h6⟩ := shp_intsH (k := .u8) Go.Proofs.Try.underlying5 _ _ _ _ h5
  refine ⟨⟨x1, x2, x3, x4, fun i => xs.getD i 0⟩, c', ?_, h6⟩
  rw [dgC_eq xs hl]; rfl
theorem shp_table {ts : List TypeId} {N : Nat} {c : List Value} {b : List (List Value)} (h : ShpL P (37 :: ts) N c b) : ∃ (t : Tb) (c' : List Value), c = tbC t ++ c' ∧ ShpL P ts N c' b := by
  have h0 := shp_structH Go.Proofs.Try.underlying37 h
  have h0 : ShpL P (35 :: 3 :: 3 :: 30 :: ts) N c b := h0
  have h1 := shp_arrayH Go.Proofs.Try.underlying35 h0
  have h1 : ShpL P (34 :: 34 :: 3 :: 3 :: 30 :: ts) N c b := h1
  obtain ⟨a, c1, e1, h2⟩ := shp_slot h1
  obtain ⟨s, c2, e2, h3⟩ := shp_slot h2
  obtain ⟨x1, c3, e3, _, h4⟩ := shp_int1 (k := .i64) Go.Proofs.Try.underlying3 h3
  obtain ⟨x2, c4, e4, _, h5⟩ := shp_int1 (k := .i64) Go.Proofs.Try.underlying3 h4
  obtain ⟨x3, c5, e5, _, h6⟩ := shp_int1 (k := .u64) Go.Proofs.Try.underlying30 h5
  refine ⟨⟨a, s, x1, x2, x3⟩, c5, ?_, h6⟩
  rw [e1, e2, e3, e4, e5]; rfl
theorem arg_table {ts : List TypeId} {N : Nat} {av : List Value} {b : List (List Value)} (h : ArgS P (37 :: ts) N av b) : ∃ (t : Tb) (vs : List Value), av = agg (tbC t) :: vs ∧ ArgS P ts N vs b := by
  obtain ⟨cs, vs, b1, b2, rfl, rfl, h1, h2⟩ := arg_agg h (.inl ⟨_, Go.Proofs.Try.underlying37⟩)
  obtain ⟨t, c', rfl, h3⟩ := shp_table h1
  obtain ⟨rfl, rfl⟩ := shp_nil h3
  refine ⟨t, vs, ?_, by simpa using h2⟩
  rw [List.append_nil]
theorem arg_slot {ts : List TypeId} {N : Nat} {av : List Value} {b : List (List Value)} (h : ArgS P (34 :: ts) N av b) : ∃ (s : Sl) (vs : List Value), av = agg (slC s) :: vs ∧ ArgS P ts N vs b := by
  obtain ⟨cs, vs, b1, b2, rfl, rfl, h1, h2⟩ := arg_agg h (.inl ⟨_, Go.Proofs.Try.underlying34⟩)
  obtain ⟨t, c', rfl, h3⟩ := shp_slot h1
  obtain ⟨rfl, rfl⟩ := shp_nil h3
  refine ⟨t, vs, ?_, by simpa using h2⟩
  rw [List.append_nil]
end T
