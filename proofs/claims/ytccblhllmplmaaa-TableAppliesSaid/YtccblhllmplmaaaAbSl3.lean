import Derived.Test.YtccblhllmplmaaaAbSl2
import Derived.Test.YtccblhllmplmaaaAbLaw
namespace Go.Ab
open Go
set_option linter.unusedVariables false
set_option linter.unusedSectionVars false
section
variable [Orc] {P : Program} {H : Heap} {Γ Δ : List (Nat × Blk)} {K : Value → Heap → Prop}
omit [Orc] in
theorem at_r {L : List (Nat × Blk)} {k : Nat} {x : Nat × Blk} (h : L[k]? = some x) : (Γ ++ L)[Γ.length + k]? = some x := by
  rw [List.getElem?_append_right (by omega), Nat.add_sub_cancel_left]; exact h
omit [Orc] in
theorem at_l {L : List (Nat × Blk)} {j : Nat} {x : Nat × Blk} (h : Γ[j]? = some x) : (Γ ++ L)[j]? = some x := by
  rw [List.getElem?_append_left (List.getElem?_eq_some_iff.1 h).1]; exact h
omit [Orc] in
theorem set_r {L : List (Nat × Blk)} {k : Nat} {x : Nat × Blk} : (Γ ++ L).set (Γ.length + k) x = Γ ++ L.set k x := by
  rw [List.set_append_right _ _ (by omega), Nat.add_sub_cancel_left]
theorem St.set_r {L : List (Nat × Blk)} {k : Nat} {x : Nat × Blk} (h : St H ((Γ ++ L).set (Γ.length + k) x)) : St H (Γ ++ L.set k x) := by rw [Go.Ab.set_r] at h; exact h

omit [Orc] in
theorem set_same {m : Nat} {x : Nat × Blk} (h : Γ[m]? = some x) : Γ.set m x = Γ := by
  have hl := (List.getElem?_eq_some_iff.1 h).1
  apply List.ext_getElem?
  intro j
  rw [List.getElem?_set]
  by_cases e : m = j
  · subst e; rw [if_pos rfl, if_pos hl, h]
  · rw [if_neg e]

theorem St.keep {L : List (Nat × Blk)} (n : Nat) (h : St H (Γ ++ L)) : St H (Γ ++ L.take n) := h.sub (List.Sublist.append (List.Sublist.refl _) (List.take_sublist n L))
omit [Orc] in
theorem oth_bool {t : TypeId} {c : Bool} {a b : Bool} (ht : P.underlying t = some .bool) : eqA P 100 t (.bool a) (.bool b) = some (a == b) := by
  show eqA P (99 + 1) t (.bool a) (.bool b) = _
  unfold eqA
  rw [ht]
omit [Orc] in
theorem bin_eql_b {t : TypeId} {c : Bool} {a b : Bool} (ht : P.underlying t = some .bool) : (binC P .eql t c).f (.bool a) (.bool b) = some (.bool (a == b)) := by
  show (if eqGuardB P t c (.bool a) (.bool b) then (eqA P 100 t (.bool a) (.bool b)).map Value.bool else none) = _
  rw [oth_bool (c := c) ht]; rfl
omit [Orc] in
theorem bin_neq_b {t : TypeId} {c : Bool} {a b : Bool} (ht : P.underlying t = some .bool) : (binC P .neq t c).f (.bool a) (.bool b) = some (.bool !(a == b)) := by
  show (if eqGuardB P t c (.bool a) (.bool b) then (eqA P 100 t (.bool a) (.bool b)).map (fun r => Value.bool !r) else none) = _
  rw [oth_bool (c := c) ht]; rfl

/-- a slice that came in, of integers -/
def RdInts (Γ : List (Nat × Blk)) (v : Value) (k : IntKind) (xs : List Int) : Prop :=
  (v = nilSl ∧ xs = []) ∨ ∃ (p c j : Nat), v = sl p 0 xs.length c ∧ Γ[j]? = some (p, (⟨xs.map (Value.int k), false⟩ : Blk))
theorem RdInts.len {v : Value} {k : IntKind} {xs : List Int} (h : RdInts Γ v k xs) : lenSl v H = some (int xs.length, H) := by
  rcases h with ⟨rfl, rfl⟩ | ⟨p, c, j, rfl, _⟩ <;> rfl
theorem RdInts.pos {v : Value} {k : IntKind} {xs : List Int} (h : RdInts Γ v k xs) (hp : 0 < xs.length) : ∃ (p c j : Nat), v = sl p 0 xs.length c ∧ Γ[j]? = some (p, (⟨xs.map (Value.int k), false⟩ : Blk)) := by
  rcases h with ⟨_, rfl⟩ | h
  · simp at hp
  · exact h
omit [Orc] in
theorem ints_at {k : IntKind} (l : List Int) (x : Int) (h : 0 ≤ x ∧ x < l.length) : (l.map (Value.int k))[0 + x.toNat * 1]? = some (.int k (l.getD x.toNat 0)) := by
  have : x.toNat < l.length := by omega
  simp [this]
theorem cvInt_i {k : IntKind} {n : Int} (h1 : -9223372036854775808 ≤ n) (h2 : n ≤ 9223372036854775807) : cvInt .i64 (.int k n) H = some (int n, H) := by
  show some (Value.int .i64 (wrapA .i64 n), H) = _
  rw [wrap_i h1 h2]
theorem bin_rem {k : IntKind} {t : TypeId} {c : Bool} {a b : Int} (hb : b ≠ 0) : (binC P .rem t c).f (.int k a) (.int k b) = some (.int k (a.tmod b)) := by
  rw [binC_int a b rfl]
  show (match eqB b 0 with | true => none | false => some (Value.int k (a.tmod b))) = _
  rw [eqB_eq, decide_eq_false hb]
end

theorem wf_i64 {x : Int} (h : (Lit.int .i64 x).wf = true) : -9223372036854775808 ≤ x ∧ x ≤ 9223372036854775807 := by
  have h : (decide (IntKind.i64.min ≤ x) && decide (x ≤ IntKind.i64.max)) = true := h
  have e1 : IntKind.i64.min = -9223372036854775808 := by decide
  have e2 : IntKind.i64.max = 9223372036854775807 := by decide
  rw [e1, e2, Bool.and_eq_true] at h
  exact ⟨of_decide_eq_true h.1, of_decide_eq_true h.2⟩
theorem wf_u64 {x : Int} (h : (Lit.int .u64 x).wf = true) : 0 ≤ x ∧ x ≤ 18446744073709551615 := by
  have h : (decide (IntKind.u64.min ≤ x) && decide (x ≤ IntKind.u64.max)) = true := h
  have e1 : IntKind.u64.min = 0 := by decide
  have e2 : IntKind.u64.max = 18446744073709551615 := by decide
  rw [e1, e2, Bool.and_eq_true] at h
  exact ⟨of_decide_eq_true h.1, of_decide_eq_true h.2⟩
theorem wf_u8 {x : Int} (h : (Lit.int .u8 x).wf = true) : 0 ≤ x ∧ x ≤ 255 := by
  have h : (decide (IntKind.u8.min ≤ x) && decide (x ≤ IntKind.u8.max)) = true := h
  have e1 : IntKind.u8.min = 0 := by decide
  have e2 : IntKind.u8.max = 255 := by decide
  rw [e1, e2, Bool.and_eq_true] at h
  exact ⟨of_decide_eq_true h.1, of_decide_eq_true h.2⟩
theorem wf_u16 {x : Int} (h : (Lit.int .u16 x).wf = true) : 0 ≤ x ∧ x ≤ 65535 := by
  have h : (decide (IntKind.u16.min ≤ x) && decide (x ≤ IntKind.u16.max)) = true := h
  have e1 : IntKind.u16.min = 0 := by decide
  have e2 : IntKind.u16.max = 65535 := by decide
  rw [e1, e2, Bool.and_eq_true] at h
  exact ⟨of_decide_eq_true h.1, of_decide_eq_true h.2⟩

/-! arguments, by their types -/
section
variable {P : Program}
theorem shp_intsL {e : TypeId} {k : IntKind} (he : P.underlying e = some (.int k)) : ∀ (n N : Nat) (c : List Value) (b : List (List Value)), ShpL P (List.replicate n e) N c b → b = [] ∧ ∃ xs : List Int, c = xs.map (Value.int k) ∧ xs.length = n ∧ ∀ x ∈ xs, (Lit.int k x).wf = true
  | 0, N, c, b, h => by cases h; exact ⟨rfl, [], rfl, rfl, by simp⟩
  | n + 1, N, c, b, h => by
    have h : ShpL P (e :: List.replicate n e) N c b := h
    cases h with
    | int v hu hw h2 =>
      rw [he] at hu; cases hu
      obtain ⟨rfl, xs, rfl, rfl, hx⟩ := shp_intsL he n N _ _ h2
      exact ⟨rfl, v :: xs, rfl, rfl, fun y hy => by rcases List.mem_cons.1 hy with rfl | hy; exact hw; exact hx y hy⟩
    | bool v hu _ => rw [he] at hu; cases hu
    | str v hu _ _ => rw [he] at hu; cases hu
    | slNil hu _ => rw [he] at hu; cases hu
    | sl len hu _ _ _ _ => rw [he] at hu; cases hu
    | struct hu _ => rw [he] at hu; cases hu
    | array hu _ => rw [he] at hu; cases hu
theorem shp_int1 {t : TypeId} {k : IntKind} (ht : P.underlying t = some (.int k)) {ts : List TypeId} {N : Nat} {c : List Value} {b : List (List Value)} (h : ShpL P (t :: ts) N c b) : ∃ (x : Int) (c' : List Value), c = .int k x :: c' ∧ (Lit.int k x).wf = true ∧ ShpL P ts N c' b := by
  cases h with
  | int v hu hw h => rw [ht] at hu; cases hu; exact ⟨v, _, rfl, hw, h⟩
  | bool v hu _ => rw [ht] at hu; cases hu
  | str v hu _ _ => rw [ht] at hu; cases hu
  | slNil hu _ => rw [ht] at hu; cases hu
  | sl len hu _ _ _ _ => rw [ht] at hu; cases hu
  | struct hu _ => rw [ht] at hu; cases hu
  | array hu _ => rw [ht] at hu; cases hu
theorem shp_nil {N : Nat} {c : List Value} {b : List (List Value)} (h : ShpL P [] N c b) : c = [] ∧ b = [] := by cases h; exact ⟨rfl, rfl⟩
theorem shp_sl {t e : TypeId} (ht : P.underlying t = some (.slice e)) {ts : List TypeId} {N : Nat} {c : List Value} {b : List (List Value)} (h : ShpL P (t :: ts) N c b) :
    (∃ c', c = nilSl :: c' ∧ ShpL P ts N c' b) ∨ ∃ (len : Nat) (cells c' : List Value) (bs b' : List (List Value)), c = sl N 0 len (2 * P.cellsOf e) :: c' ∧ b = cells :: (bs ++ b') ∧ len ≤ maxLen ∧ cells.length = len * P.cellsOf e ∧ ShpL P (List.replicate len e) (N + 1) cells bs ∧ ShpL P ts (N + 1 + bs.length) c' b' := by
  cases h with
  | int v hu hw h => rw [ht] at hu; cases hu
  | bool v hu _ => rw [ht] at hu; cases hu
  | str v hu _ _ => rw [ht] at hu; cases hu
  | slNil hu h => exact .inl ⟨_, rfl, h⟩
  | sl len hu h1 h2 h3 h4 => rw [ht] at hu; cases hu; exact .inr ⟨len, _, _, _, _, rfl, rfl, h1, h2, h3, h4⟩
  | struct hu _ => rw [ht] at hu; cases hu
  | array hu _ => rw [ht] at hu; cases hu
theorem arg_one {t : TypeId} {ts : List TypeId} {N : Nat} {as : List Value} {b : List (List Value)} (h : ArgS P (t :: ts) N as b) (hn : ∀ fs, P.underlying t ≠ some (.struct fs)) (hn2 : ∀ n e, P.underlying t ≠ some (.array n e)) :
    ∃ v vs b1 b2, as = v :: vs ∧ b = b1 ++ b2 ∧ ShpL P [t] N [v] b1 ∧ ArgS P ts (N + b1.length) vs b2 := by
  cases h with
  | one _ _ h1 h2 => exact ⟨_, _, _, _, rfl, rfl, h1, h2⟩
  | agg h1 _ _ => rcases h1 with ⟨fs, h⟩ | ⟨n, e, h⟩; exact absurd h (hn fs); exact absurd h (hn2 n e)
theorem arg_agg {t : TypeId} {ts : List TypeId} {N : Nat} {as : List Value} {b : List (List Value)} (h : ArgS P (t :: ts) N as b) (hn : (∃ fs, P.underlying t = some (.struct fs)) ∨ ∃ n e, P.underlying t = some (.array n e)) :
    ∃ cs vs b1 b2, as = .agg cs.toArray :: vs ∧ b = b1 ++ b2 ∧ ShpL P [t] N cs b1 ∧ ArgS P ts (N + b1.length) vs b2 := by
  cases h with
  | one h1 h2 _ _ => rcases hn with ⟨fs, h⟩ | ⟨n, e, h⟩; exact absurd h (h1 fs); exact absurd h (h2 n e)
  | agg _ h1 h2 => exact ⟨_, _, _, _, rfl, rfl, h1, h2⟩
theorem arg_nil {N : Nat} {as : List Value} {b : List (List Value)} (h : ArgS P [] N as b) : as = [] ∧ b = [] := by cases h; exact ⟨rfl, rfl⟩
/-- an int -/
theorem arg_int {t : TypeId} {ts : List TypeId} {N : Nat} {as : List Value} {b : List (List Value)} {k : IntKind} (ht : P.underlying t = some (.int k)) (h : ArgS P (t :: ts) N as b) : ∃ x vs, as = .int k x :: vs ∧ (Lit.int k x).wf = true ∧ ArgS P ts N vs b := by
  obtain ⟨v, vs, b1, b2, rfl, rfl, h1, h2⟩ := arg_one h (by rw [ht]; simp) (by rw [ht]; simp)
  obtain ⟨x, c', e, hw, h3⟩ := shp_int1 ht h1
  cases e
  obtain ⟨_, rfl⟩ := shp_nil h3
  exact ⟨x, vs, rfl, hw, by simpa using h2⟩
/-- a slice of ints: its block is among the arguments' -/
theorem argG_append (bs bs' : List (List Value)) : ∀ N, argG N (bs ++ bs') = argG N bs ++ argG (N + bs.length) bs' := by
  induction bs with
  | nil => intro N; rfl
  | cons b r ih => intro N; show _ :: argG (N + 1) (r ++ bs') = _ :: (_ ++ _); rw [ih]; simp only [List.length_cons]; rw [show N + 1 + r.length = N + (r.length + 1) by omega]
theorem arg_ints {t e : TypeId} {ts : List TypeId} {N : Nat} {as : List Value} {b : List (List Value)} {k : IntKind} (ht : P.underlying t = some (.slice e)) (he : P.underlying e = some (.int k)) (hc : P.cellsOf e = 1) (h : ArgS P (t :: ts) N as b) :
    ∃ v vs b1 b2 xs, as = v :: vs ∧ b = b1 ++ b2 ∧ RdInts (argG N b1) v k xs ∧ (∀ x ∈ xs, (Lit.int k x).wf = true) ∧ xs.length ≤ maxLen ∧ ArgS P ts (N + b1.length) vs b2 := by
  obtain ⟨v, vs, b1, b2, rfl, rfl, h1, h2⟩ := arg_one h (by rw [ht]; simp) (by rw [ht]; simp)
  rcases shp_sl ht h1 with ⟨c', e1, h3⟩ | ⟨len, cells, c', bs, b', e1, rfl, hm, hl, h3, h4⟩
  · cases e1
    exact ⟨_, vs, b1, b2, [], rfl, rfl, .inl ⟨rfl, rfl⟩, by simp, Nat.zero_le _, h2⟩
  · cases e1
    obtain ⟨rfl, xs, rfl, rfl, hx⟩ := shp_intsL he _ _ _ _ h3
    exact ⟨_, vs, _, b2, xs, rfl, rfl, .inr ⟨N, _, 0, rfl, rfl⟩, hx, hm, h2⟩
theorem RdInts.app {Γ Δ : List (Nat × Blk)} {v : Value} {k : IntKind} {xs : List Int} (h : RdInts Γ v k xs) : RdInts (Γ ++ Δ) v k xs := by
  rcases h with h | ⟨p, c, j, h1, h2⟩
  · exact .inl h
  · exact .inr ⟨p, c, j, h1, at_l h2⟩
theorem RdInts.app' {Γ Δ : List (Nat × Blk)} {v : Value} {k : IntKind} {xs : List Int} (h : RdInts Δ v k xs) : RdInts (Γ ++ Δ) v k xs := by
  rcases h with h | ⟨p, c, j, h1, h2⟩
  · exact .inl h
  · exact .inr ⟨p, c, Γ.length + j, h1, at_r h2⟩
/-- a slice that came in, of pairs of integers -/
def RdPairs (Γ : List (Nat × Blk)) (v : Value) (xs : List (Int × Int)) : Prop :=
  (v = nilSl ∧ xs = []) ∨ ∃ (p c j : Nat), v = sl p 0 xs.length c ∧ Γ[j]? = some (p, (⟨xs.flatMap fun a => [int a.1, int a.2], false⟩ : Blk))
theorem RdPairs.len {Γ : List (Nat × Blk)} {v : Value} {xs : List (Int × Int)} {H : Heap} (h : RdPairs Γ v xs) : lenSl v H = some (int xs.length, H) := by
  rcases h with ⟨rfl, rfl⟩ | ⟨p, c, j, rfl, _⟩ <;> rfl
theorem RdPairs.pos {Γ : List (Nat × Blk)} {v : Value} {xs : List (Int × Int)} (h : RdPairs Γ v xs) (hp : 0 < xs.length) : ∃ (p c j : Nat), v = sl p 0 xs.length c ∧ Γ[j]? = some (p, (⟨xs.flatMap fun a => [int a.1, int a.2], false⟩ : Blk)) := by
  rcases h with ⟨_, rfl⟩ | h
  · simp at hp
  · exact h
theorem RdPairs.app {Γ Δ : List (Nat × Blk)} {v : Value} {xs : List (Int × Int)} (h : RdPairs Γ v xs) : RdPairs (Γ ++ Δ) v xs := by
  rcases h with h | ⟨p, c, j, h1, h2⟩
  · exact .inl h
  · exact .inr ⟨p, c, j, h1, at_l h2⟩
theorem RdPairs.app' {Γ Δ : List (Nat × Blk)} {v : Value} {xs : List (Int × Int)} (h : RdPairs Δ v xs) : RdPairs (Γ ++ Δ) v xs := by
  rcases h with h | ⟨p, c, j, h1, h2⟩
  · exact .inl h
  · exact .inr ⟨p, c, Γ.length + j, h1, at_r h2⟩
theorem pairs_at : ∀ (xs : List (Int × Int)) (i : Nat), i < xs.length → ((xs.flatMap fun a => [int a.1, int a.2]).drop (i * 2)).take 2 = [int (xs.getD i (0, 0)).1, int (xs.getD i (0, 0)).2]
  | [], _, h => by simp at h
  | a :: r, 0, _ => by simp
  | a :: r, i + 1, h => by
    have := pairs_at r i (by simpa using h)
    rw [show (i + 1) * 2 = 2 + i * 2 by omega, ← List.drop_drop]
    simpa using this
theorem shp_pairsL {e f0 f1 : TypeId} {F0 F1 : Field} (he : P.underlying e = some (.struct #[F0, F1])) (h0 : P.underlying F0.type = some (.int .i64)) (h1 : P.underlying F1.type = some (.int .i64)) : ∀ (n N : Nat) (c : List Value) (b : List (List Value)), ShpL P (List.replicate n e) N c b → b = [] ∧ ∃ xs : List (Int × Int), c = (xs.flatMap fun a => [int a.1, int a.2]) ∧ xs.length = n ∧ ∀ x ∈ xs, (Lit.int .i64 x.1).wf = true ∧ (Lit.int .i64 x.2).wf = true
  | 0, N, c, b, h => by cases h; exact ⟨rfl, [], rfl, rfl, by simp⟩
  | n + 1, N, c, b, h => by
    have h : ShpL P (e :: List.replicate n e) N c b := h
    cases h with
    | struct hu h =>
      rw [he] at hu; cases hu
      obtain ⟨x, c', rfl, w1, h⟩ := shp_int1 h0 (show ShpL P (F0.type :: F1.type :: List.replicate n e) N c b from h)
      obtain ⟨y, c'', rfl, w2, h⟩ := shp_int1 h1 h
      obtain ⟨rfl, xs, rfl, rfl, hx⟩ := shp_pairsL (f0 := f0) (f1 := f1) he h0 h1 n N _ _ h
      exact ⟨rfl, (x, y) :: xs, rfl, rfl, fun z hz => by rcases List.mem_cons.1 hz with rfl | hz; exact ⟨w1, w2⟩; exact hx z hz⟩
    | int v hu _ _ => rw [he] at hu; cases hu
    | bool v hu _ => rw [he] at hu; cases hu
    | str v hu _ _ => rw [he] at hu; cases hu
    | slNil hu _ => rw [he] at hu; cases hu
    | sl len hu _ _ _ _ => rw [he] at hu; cases hu
    | array hu _ => rw [he] at hu; cases hu
theorem arg_pairs {t e : TypeId} {F0 F1 : Field} {ts : List TypeId} {N : Nat} {as : List Value} {b : List (List Value)} (ht : P.underlying t = some (.slice e)) (he : P.underlying e = some (.struct #[F0, F1])) (h0 : P.underlying F0.type = some (.int .i64)) (h1 : P.underlying F1.type = some (.int .i64)) (h : ArgS P (t :: ts) N as b) :
    ∃ v vs b1 b2 xs, as = v :: vs ∧ b = b1 ++ b2 ∧ RdPairs (argG N b1) v xs ∧ (∀ x ∈ xs, (Lit.int .i64 x.1).wf = true ∧ (Lit.int .i64 x.2).wf = true) ∧ xs.length ≤ maxLen ∧ ArgS P ts (N + b1.length) vs b2 := by
  obtain ⟨v, vs, b1, b2, rfl, rfl, h1', h2⟩ := arg_one h (by rw [ht]; simp) (by rw [ht]; simp)
  rcases shp_sl ht h1' with ⟨c', e1, h3⟩ | ⟨len, cells, c', bs, b', e1, rfl, hm, hl, h3, h4⟩
  · cases e1
    exact ⟨_, vs, b1, b2, [], rfl, rfl, .inl ⟨rfl, rfl⟩, by simp, Nat.zero_le _, h2⟩
  · cases e1
    obtain ⟨rfl, xs, rfl, rfl, hx⟩ := shp_pairsL (f0 := 0) (f1 := 0) he h0 h1 _ _ _ _ h3
    exact ⟨_, vs, _, b2, xs, rfl, rfl, .inr ⟨N, _, 0, rfl, rfl⟩, hx, hm, h2⟩
end
end Go.Ab
