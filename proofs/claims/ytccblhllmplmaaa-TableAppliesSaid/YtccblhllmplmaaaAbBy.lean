import Derived.Test.YtccblhllmplmaaaAbU
namespace Go.Ab
open Go
set_option linter.unusedVariables false
set_option linter.unusedSectionVars false
/-! slices of bytes -/
abbrev by8 (xs : List Int) : List Value := xs.map (Value.int .u8)
/-- a slice that can be read: what it holds -/
def RdB (Γ : List (Nat × Blk)) (v : Value) (xs : List Int) : Prop :=
  (v = nilSl ∧ xs = []) ∨ ∃ p o c, v = sl p o xs.length c ∧ (c = 2 ∨ c = 3) ∧ (xs = [] ∨ ∃ (j : Nat) (b : Blk), Γ[j]? = some (p, b) ∧ (b.cells.drop o).take xs.length = by8 xs)
/-- a slice of the call's own, and its block's cells (perhaps more than it shows) -/
def OwnB (v : Value) (xs : List Int) (cs : List Value) : Prop :=
  (v = nilSl ∧ xs = [] ∧ cs = []) ∨ ∃ p, (v = sl p 0 xs.length 2 ∨ (v = sl p 0 xs.length 3 ∧ cs.length = xs.length)) ∧ cs.take xs.length = by8 xs ∧ xs.length ≤ cs.length ∧ cs.all simpleB = true
section
variable [Orc] {P : Program} {H : Heap} {Γ Δ : List (Nat × Blk)} {v x : Value} {xs ys : List Int} {cs : List Value} {K : Value → Heap → Prop}
theorem RdB.nil : RdB Γ nilSl [] := .inl ⟨rfl, rfl⟩
theorem RdB.shape (h : RdB Γ v xs) : ∃ a n c, v = .slice a n c := by
  rcases h with ⟨rfl, _⟩ | ⟨p, o, c, rfl, _⟩ <;> exact ⟨_, _, _, rfl⟩
theorem RdB.lenSl (h : RdB Γ v xs) : lenSl v H = some (int xs.length, H) := by
  rcases h with ⟨rfl, rfl⟩ | ⟨p, o, c, rfl, _⟩ <;> rfl
theorem RdB.lenA (h : RdB Γ v xs) : lenA v = some xs.length := by
  rcases h with ⟨rfl, rfl⟩ | ⟨p, o, c, rfl, _⟩ <;> rfl
theorem RdB.app (h : RdB Γ v xs) : RdB (Γ ++ Δ) v xs := by
  rcases h with h | ⟨p, o, c, h1, h2, h3 | ⟨j, b, h3, h4⟩⟩
  · exact .inl h
  · exact .inr ⟨p, o, c, h1, h2, .inl h3⟩
  · exact .inr ⟨p, o, c, h1, h2, .inr ⟨j, b, at_l h3, h4⟩⟩
theorem RdB.app' (h : RdB Δ v xs) : RdB (Γ ++ Δ) v xs := by
  rcases h with h | ⟨p, o, c, h1, h2, h3 | ⟨j, b, h3, h4⟩⟩
  · exact .inl h
  · exact .inr ⟨p, o, c, h1, h2, .inl h3⟩
  · exact .inr ⟨p, o, c, h1, h2, .inr ⟨Γ.length + j, b, at_r h3, h4⟩⟩
theorem OwnB.nil : OwnB nilSl [] [] := .inl ⟨rfl, rfl, rfl⟩
theorem OwnB.rd (h : OwnB v xs cs) : RdB (outB v cs) v xs := by
  rcases h with ⟨rfl, rfl, rfl⟩ | ⟨p, rfl | ⟨rfl, _⟩, h2, h3⟩
  · exact .nil
  · exact .inr ⟨p, 0, 2, rfl, .inl rfl, .inr ⟨0, ⟨cs, true⟩, rfl, by rw [List.drop_zero]; exact h2⟩⟩
  · exact .inr ⟨p, 0, 3, rfl, .inr rfl, .inr ⟨0, ⟨cs, true⟩, rfl, by rw [List.drop_zero]; exact h2⟩⟩
theorem OwnB.lenSl (h : OwnB v xs cs) : lenSl v H = some (int xs.length, H) := h.rd.lenSl
theorem cells_ne {b : Blk} {o : Nat} (hx : xs ≠ []) (h : (b.cells.drop o).take xs.length = by8 xs) : b.cells ≠ [] := by
  intro e
  rw [e] at h
  simp at h
  exact hx h
theorem cells_len {b : Blk} {o : Nat} (h : (b.cells.drop o).take xs.length = by8 xs) : xs.length ≤ b.cells.length - o := by
  have := congrArg List.length h
  simp at this
  omega
theorem RdB.elems (hO : St H Γ) (h : RdB Γ v xs) : elemsA H 1 xs.length v = some (by8 xs) := by
  rcases h with ⟨rfl, rfl⟩ | ⟨p, o, c, rfl, _, rfl | ⟨j, b, h3, h4⟩⟩
  · rfl
  · rfl
  · by_cases hx : xs = []
    · subst hx; rfl
    · rw [elems_sl (hO.at j h3 (.inr (cells_ne hx h4))) (by have := cells_len h4; have : 0 < xs.length := List.length_pos_iff.2 hx; omega), Nat.mul_one, h4]
/-- one byte -/
theorem RdB.at (h : RdB Γ v xs) {i : Nat} (hi : i < xs.length) : ∃ (p o c j : Nat) (b : Blk), v = sl p o xs.length c ∧ Γ[j]? = some (p, b) ∧ b.cells[o + i]? = some (Value.int .u8 xs[i]) := by
  rcases h with ⟨rfl, rfl⟩ | ⟨p, o, c, rfl, _, rfl | ⟨j, b, h3, h4⟩⟩
  · simp at hi
  · simp at hi
  · refine ⟨p, o, c, j, b, rfl, h3, ?_⟩
    have := congrArg (·[i]?) h4
    simp [hi] at this
    exact this
/-- append: bytes of any slice onto one of the call's own -/
theorem append_by (hO : St H (Γ ++ outB v cs)) (hv : OwnB v xs cs) (hx : RdB Γ x ys) (hl : xs.length + ys.length ≤ 1000000000)
    (hk : ∀ H' v' cs', St H' (Γ ++ outB v' cs') → OwnB v' (xs ++ ys) cs' → K v' H') : opW (appendWith 1 1 v x H) K := by
  unfold appendWith
  simp only [hx.lenA, hx.app.elems hO]
  by_cases hy : ys = []
  · subst hy
    rw [List.append_nil] at hk
    unfold appendTo
    rcases hv with ⟨rfl, rfl, rfl⟩ | ⟨p, rfl | ⟨rfl, h1⟩, h2, h3⟩
    · exact opW_i (show some (nilSl, H) = _ from rfl) (hk _ _ _ hO .nil)
    · exact opW_i (show some (sl p 0 xs.length 2, H) = _ from rfl) (hk _ _ _ hO (.inr ⟨p, .inl rfl, h2, h3⟩))
    · exact opW_i (show some (sl p 0 xs.length 3, H) = _ from rfl) (hk _ _ _ hO (.inr ⟨p, .inr ⟨rfl, h1⟩, h2, h3⟩))
  have hpos : 0 < ys.length := List.length_pos_iff.2 hy
  have hmb : Nat.beq ys.length 0 = false := by
    cases hb : Nat.beq ys.length 0 with
    | false => rfl
    | true => have := Nat.eq_of_beq_eq_true hb; omega
  have h1 : (by8 ys).all oneCell = true := by simp [oneCell]
  have own' : ∀ p, OwnB (sl p 0 (xs.length + ys.length) 2) (xs ++ ys) (by8 xs ++ by8 ys) := fun p => by
    refine .inr ⟨p, .inl (by rw [List.length_append]), ?_, by simp, by simp [simpleB, simple0]⟩
    rw [List.take_of_length_le (by simp)]
    exact (List.map_append).symm
  unfold appendTo
  rcases hv with ⟨rfl, rfl, rfl⟩ | ⟨p, hv, h2, h3, h4⟩
  · simp only [hmb, Bool.false_eq_true, if_false]
    rw [if_pos (room_of (by omega) (by omega))]
    have hO : St H Γ := by simpa [outB] using hO
    refine opW_i (show newSlice (by8 ys) ys.length (2 * 1) H = some (sl H.next 0 ys.length 2, H.push (by8 ys)) from rfl) (hk _ _ (by8 ys) (hO.push _) ?_)
    have := own' H.next
    simpa using this
  · have hΓ : outB v cs = [(p, ⟨cs, true⟩)] := by rcases hv with rfl | ⟨rfl, _⟩ <;> rfl
    rw [hΓ] at hO
    have hi : (Γ ++ [(p, (⟨cs, true⟩ : Blk))])[Γ.length]? = some (p, ⟨cs, true⟩) := by simp
    have hget := hO.at _ hi (.inl rfl)
    rcases hv with rfl | ⟨rfl, hlen⟩
    · have her := hO.erase hi
      have he : (Γ ++ [(p, (⟨cs, true⟩ : Blk))]).eraseIdx Γ.length = Γ := by
        rw [List.eraseIdx_append_of_length_le (Nat.le_refl _)]; simp
      rw [he] at her
      simp only [hmb, Bool.false_eq_true, if_false]
      rw [if_pos (room_of (by omega) (by omega))]
      rw [if_neg (show ¬ Nat.beq 2 (2 * 1 + 1) = true by decide), if_pos (show Nat.beq 2 (2 * 1) = true by decide)]
      unfold appendOpen
      rw [hget]
      have e : (Heap.mayWrite H p ⟨cs, true⟩ && (Nat.ble (0 + xs.length * 1) (lenN cs) && allN oneCell (by8 ys))) = true := by
        unfold Heap.mayWrite
        rw [hO.fl, lenN_eq, allN_eq, h1, ble_eq, ble_eq, decide_eq_true (by omega : 0 + xs.length * 1 ≤ cs.length)]
        simp
      simp only [e]
      have e2 : appN (dropN (takeN cs (0 + xs.length * 1)) 0) (by8 ys) = by8 xs ++ by8 ys := by
        rw [appN_eq, dropN_eq, takeN_eq, Nat.zero_add, Nat.mul_one, h2]; rfl
      rw [e2]
      exact opW_i (show newSlice (by8 xs ++ by8 ys) (xs.length + ys.length) (2 * 1) (H.set p none) = some (sl H.next 0 (xs.length + ys.length) 2, (H.set p none).push (by8 xs ++ by8 ys)) from rfl) (hk _ _ _ (her.push _) (own' _))
    · simp only [hmb, Bool.false_eq_true, if_false]
      rw [if_pos (room_of (by omega) (by omega))]
      rw [if_pos (show Nat.beq 3 (2 * 1 + 1) = true by decide)]
      unfold appendClosed
      have hcs : cs = by8 xs := by rw [← hlen] at h2; rw [List.take_of_length_le (Nat.le_refl _)] at h2; exact h2
      have e3 : (if Nat.beq xs.length 0 = true then some [] else readCells H p 0 (xs.length * 1)) = some (by8 xs) := by
        split
        · rename_i h0
          have h0 := Nat.eq_of_beq_eq_true h0
          have : xs = [] := List.length_eq_zero_iff.1 h0
          rw [this]; rfl
        · rw [readCells_eq]
          rw [hget]
          simp only [cellsAt, takeN_eq, dropN_eq, lenN_eq, List.drop_zero, Nat.mul_one]
          rw [h2, List.length_map, Nat.beq_refl]
      rw [e3]
      simp only [appN_eq]
      exact opW_i (show newSlice (by8 xs ++ by8 ys) (xs.length + ys.length) (2 * 1) H = some (sl H.next 0 (xs.length + ys.length) 2, H.push (by8 xs ++ by8 ys)) from rfl) (hk _ _ _ (hO.left.push _) (own' _))
/-- the same, from a block that was made last -/
theorem append_new {q : Nat} {w : Bool} (hO : St H ((Γ ++ outB v cs) ++ [(q, ⟨by8 ys, w⟩)])) (hv : OwnB v xs cs) (hl : xs.length + ys.length ≤ 1000000000) {n c : Nat} (hn : n = ys.length) (hc : c = 2 ∨ c = 3)
    (hk : ∀ H' v' cs', St H' (Γ ++ outB v' cs') → OwnB v' (xs ++ ys) cs' → K v' H') : opW (appendWith 1 1 v (sl q 0 n c) H) K := by
  have hO2 : St H ((Γ ++ [(q, ⟨by8 ys, w⟩)]) ++ outB v cs) := hO.perm (by
    rw [List.append_assoc, List.append_assoc]
    exact List.Perm.append_left Γ List.perm_append_comm)
  refine append_by hO2 hv (ys := ys) (.inr ⟨q, 0, c, by rw [hn], hc, .inr ⟨Γ.length, ⟨by8 ys, w⟩, by simp, ?_⟩⟩) hl ?_
  · rw [List.drop_zero]; exact List.take_of_length_le (by simp)
  · intro H' v' cs' hO' hv'
    exact hk H' v' cs' (St.sub hO' (List.Sublist.append (List.sublist_append_left _ _) (List.Sublist.refl _))) hv'
theorem same_own {B : List (Nat × Blk)} {H' : Heap} (hO : St H (Γ ++ outB v cs)) (hv : OwnB v xs cs) (hO' : St H' ((Γ ++ outB v cs) ++ B)) : cSame (sameB H H') (idsOf [v]) := by
  rcases hv with ⟨rfl, rfl, rfl⟩ | ⟨p, hv, h2, h3, h4⟩
  · rfl
  · have hΓ : outB v cs = [(p, ⟨cs, true⟩)] := by rcases hv with rfl | ⟨rfl, _⟩ <;> rfl
    rw [hΓ] at hO hO'
    have := same_at (o := 0) hO (Γ.length + 0) (at_r rfl) hO' (Γ.length + 0) (at_l (at_r rfl)) h4
    rcases hv with rfl | ⟨rfl, _⟩ <;> exact this
theorem append_own2 {cs2 : List Value} (hO : St H ((Γ ++ outB v cs) ++ outB x cs2)) (hv : OwnB v xs cs) (hx : OwnB x ys cs2) (hl : xs.length + ys.length ≤ 1000000000)
    (hk : ∀ H' v' cs', St H' (Γ ++ outB v' cs') → OwnB v' (xs ++ ys) cs' → K v' H') : opW (appendWith 1 1 v x H) K := by
  have hO2 : St H ((Γ ++ outB x cs2) ++ outB v cs) := hO.perm (by
    rw [List.append_assoc, List.append_assoc]
    exact List.Perm.append_left Γ List.perm_append_comm)
  refine append_by hO2 hv hx.rd.app' hl ?_
  intro H' v' cs' hO' hv'
  exact hk H' v' cs' (St.sub hO' (List.Sublist.append (List.sublist_append_left _ _) (List.Sublist.refl _))) hv'
theorem St.tail1 {y : Nat × Blk} {A B : List (Nat × Blk)} (h : St H ((Γ ++ (y :: A)) ++ B)) : St H (Γ ++ (y :: B)) :=
  h.sub (by
    rw [List.append_assoc]
    exact List.Sublist.append (List.Sublist.refl _) (List.Sublist.cons_cons y (List.sublist_append_right A B)))
theorem RdB.tl {y : Nat × Blk} {B : List (Nat × Blk)} (h : RdB B v xs) : RdB (Γ ++ (y :: B)) v xs := by
  have := h.app' (Γ := Γ ++ [y])
  rw [List.append_assoc] at this
  exact this
theorem cvIU {n : Int} (h0 : 0 ≤ n) (h1 : n < 18446744073709551616) : cvInt .u64 (int n) H = some (uint .u64 n.toNat, H) := by
  obtain ⟨m, rfl⟩ : ∃ m : Nat, n = m := ⟨n.toNat, by omega⟩
  show some (Value.int .u64 (wrapA .u64 (m : Int)), H) = _
  rw [wrap_u rfl, Int.toNat_natCast, Nat.mod_eq_of_lt (show m < szU .u64 from (show m < 18446744073709551616 by omega))]
theorem cvI8 {n : Int} (h0 : 0 ≤ n) (h1 : n < 256) : cvInt .u8 (int n) H = some (uint .u8 n.toNat, H) := by
  obtain ⟨m, rfl⟩ : ∃ m : Nat, n = m := ⟨n.toNat, by omega⟩
  show some (Value.int .u8 (wrapA .u8 (m : Int)), H) = _
  rw [wrap_u rfl, Int.toNat_natCast, Nat.mod_eq_of_lt (show m < szU .u8 from (show m < 256 by omega))]
theorem uint_of {k : IntKind} {n : Int} (h0 : 0 ≤ n) : Value.int k n = uint k n.toNat := by unfold uint; rw [Int.toNat_of_nonneg h0]
theorem slice_arr {p o n : Nat} {b : Blk} (hO : St H Γ) (i : Nat) (hi : Γ[i]? = some (p, b)) (hp : 0 < n) (hn : o + n ≤ b.cells.length) : sliceArr n 1 (ptr p o) none none none H = some (sl p o n 3) := by
  have hg := hO.at i hi (.inr (by intro e; rw [e] at hn; simp at hn; omega))
  unfold sliceArr
  simp only [hg, Nat.mul_one, lenN_eq]
  rw [Nat.ble_eq_true_of_le hn]
  simp [boundHi, boundLo, maxOk, reslice]
theorem bytesOf (xs : List Int) : bytesOfL (by8 xs) = some (xs.map fun n => UInt8.ofNat n.toNat) := by
  induction xs with
  | nil => rfl
  | cons x r ih => show (bytesOfL (by8 r)).map _ = _; rw [ih]; rfl
def strB (xs : List Int) : Value := .string ⟨(xs.map fun n => UInt8.ofNat n.toNat).toArray⟩
theorem RdB.str (hO : St H Γ) (h : RdB Γ v xs) : bytesToStr v H = some (strB xs, H) := by
  have he := h.elems hO
  rcases h with ⟨rfl, rfl⟩ | ⟨p, o, c, rfl, _⟩
  · rfl
  · unfold bytesToStr
    simp only
    split
    · rename_i h0
      have h0 := Nat.eq_of_beq_eq_true h0
      have : xs = [] := List.length_eq_zero_iff.1 h0
      subst this; rfl
    · rename_i h0
      unfold elemsA at he
      simp only [Nat.mul_one] at he
      rw [if_neg h0] at he
      rw [he]
      simp only [bytesOf]
      rfl
theorem str_eq (t : TypeId) (c : Bool) (xs ys : List Int) : (binC P .eql t c).f (strB xs) (strB ys) = some (.bool ((xs.map fun n => UInt8.ofNat n.toNat) == ys.map fun n => UInt8.ofNat n.toNat)) := rfl
theorem str_self (t : TypeId) (c : Bool) (xs : List Int) : (binC P .eql t c).f (strB xs) (strB xs) = some (.bool true) := by rw [str_eq]; simp
/-- a slice, compared with nil -/
theorem eql_nil {t e : TypeId} {c : Bool} {a : Option Addr} {n k : Nat} (ht : P.underlying t = some (.slice e)) : (binC P .eql t c).f (.slice a n k) nilSl = some (.bool a.isNone) := by
  show (if eqGuardB P t c (.slice a n k) nilSl then (eqA P 100 t (.slice a n k) nilSl).map Value.bool else none) = _
  have h1 : eqGuardB P t c (.slice a n k) nilSl = true := rfl
  rw [if_pos h1]
  show (eqA P (99 + 1) t (.slice a n k) nilSl).map Value.bool = _
  unfold eqA
  rw [ht]
  cases a <;> rfl
theorem slice_to {o n c : Nat} {p : Nat} {h : Int} (h0 : 0 ≤ h) (h1 : h ≤ n) (hc : c = 2 ∨ c = 3) : ∃ c', (c' = 2 ∨ c' = 3) ∧ sliceSl 1 (sl p o n c) none (some (int h)) none = some (sl p o h.toNat c') := by
  obtain ⟨m, rfl⟩ : ∃ m : Nat, h = m := ⟨h.toNat, by omega⟩
  have hb : boundHi n (some (int (m : Int))) = some m := by
    show (match leB 0 (m : Int) with | true => (match Nat.ble (m : Int).toNat n with | true => some (m : Int).toNat | false => none) | false => none) = _
    rw [leB_eq, decide_eq_true (by omega)]
    simp only [Int.toNat_natCast]
    rw [Nat.ble_eq_true_of_le (by omega)]
  rcases hc with rfl | rfl
  · refine ⟨2, .inl rfl, ?_⟩
    unfold sliceSl
    simp only [hb]
    simp [boundLo, maxOk, reslice]
  · refine ⟨cond (Nat.beq m n) 3 2, by cases Nat.beq m n <;> simp, ?_⟩
    unfold sliceSl
    simp only [hb]
    simp [boundLo, maxOk, reslice]
end
end Go.Ab
