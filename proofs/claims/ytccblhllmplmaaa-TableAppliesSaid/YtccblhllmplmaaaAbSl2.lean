import Derived.Test.YtccblhllmplmaaaAbSl
namespace Go.Ab
open Go
set_option linter.unusedVariables false
set_option linter.unusedSectionVars false
section
variable [Orc] {P : Program} {H : Heap} {Γ Δ : List (Nat × Blk)} {K : Value → Heap → Prop}
theorem wIf_t {b : Bool} {A B : Prop} (h : b = true) (hA : A) : wIf (.bool b) A B := by rw [h, wIf_true]; exact hA
theorem wIf_f {b : Bool} {A B : Prop} (h : b = false) (hB : B) : wIf (.bool b) A B := by rw [h, wIf_false]; exact hB

/-! blocks that are made -/
theorem repl_one (n : Nat) (v : Value) : repl n [v] = List.replicate n v := repl1_eq n v
theorem newSl_at {r : R} {n c : Nat} {cs : List Value} (h : St H Γ) (hr : r = some (sl H.next 0 n c, H.push cs)) (hk : ∀ p H', St H' (Γ ++ [(p, ⟨cs, true⟩)]) → K (sl p 0 n c) H') : opW r K :=
  opW_i hr (hk _ _ (h.push cs))
theorem makeSl_eq {size bytes : Nat} {z : List Value} {k k' : IntKind} {n : Nat} (h1 : n * bytes ≤ 281474976710656) (h2 : n ≤ 9223372036854775807) :
    makeSl size bytes z (.int k n) (.int k' n) H = some (sl H.next 0 n (2 * size + 1), H.push (repl n z)) := by
  unfold makeSl
  simp only [Int.toNat_natCast]
  rw [if_pos (by omega), if_pos (by omega), if_pos (by rw [Bool.and_eq_true, ble_eq, ble_eq]; exact ⟨decide_eq_true h1, decide_eq_true h2⟩)]
  have : eqB (n : Int) n = true := by rw [eqB_eq]; simp
  rw [this]; rfl
theorem make_at {size bytes : Nat} {z : List Value} {k k' : IntKind} {n : Nat} (h : St H Γ) (h1 : n * bytes ≤ 281474976710656) (h2 : n ≤ 9223372036854775807)
    (hk : ∀ p H', St H' (Γ ++ [(p, ⟨repl n z, true⟩)]) → K (sl p 0 n (2 * size + 1)) H') : opW (makeSl size bytes z (.int k n) (.int k' n) H) K :=
  newSl_at h (makeSl_eq h1 h2) hk

/-! append -/
/-- what a slice of the call's own holds: nothing (nil), or a block -/
def outB (v : Value) (cs : List Value) : List (Nat × Blk) := match v with
  | .slice (some a) _ _ => [(a.block, ⟨cs, true⟩)]
  | _ => []
/-- v is a slice of n elements, each of 'size' cells, in cells of its own: cs -/
def Own (size : Nat) (v : Value) (n : Nat) (cs : List Value) : Prop :=
  (v = nilSl ∧ n = 0 ∧ cs = []) ∨ (∃ p, (v = sl p 0 n (2 * size) ∨ v = sl p 0 n (2 * size + 1)) ∧ cs.length = n * size)
theorem Own.nil {size : Nat} : Own size nilSl 0 [] := .inl ⟨rfl, rfl, rfl⟩
theorem Own.len {size n : Nat} {v : Value} {cs : List Value} (h : Own size v n cs) : cs.length = n * size := by
  rcases h with ⟨_, rfl, rfl⟩ | ⟨p, _, h⟩
  · simp
  · exact h
theorem Own.lenSl {size n : Nat} {v : Value} {cs : List Value} (h : Own size v n cs) : lenSl v H = some (.int .i64 n, H) := by
  rcases h with ⟨rfl, rfl, _⟩ | ⟨p, rfl | rfl, _⟩ <;> rfl
theorem St.erase (h : St H Γ) {i p : Nat} {b : Blk} (hi : Γ[i]? = some (p, b)) : St (H.set p none) (Γ.eraseIdx i) := by
  have hm : ∀ x ∈ Γ.eraseIdx i, x ∈ Γ ∧ x.1 ≠ p := by
    intro x hx
    refine ⟨List.mem_of_mem_eraseIdx hx, fun e => ?_⟩
    obtain ⟨j, hj⟩ := List.mem_iff_getElem?.1 hx
    rw [List.getElem?_eraseIdx] at hj
    have n1 : (Γ.map (·.1))[i]? = some p := by rw [List.getElem?_map, hi]; rfl
    have hlt : i < (Γ.map (·.1)).length := by rw [List.length_map]; exact (List.getElem?_eq_some_iff.1 hi).1
    split at hj
    · rename_i hji
      have n2 : (Γ.map (·.1))[j]? = some p := by rw [List.getElem?_map, hj]; exact congrArg some e
      have := (List.getElem?_inj hlt h.nd).1 (n1.trans n2.symm); omega
    · rename_i hji
      have n2 : (Γ.map (·.1))[j + 1]? = some p := by rw [List.getElem?_map, hj]; exact congrArg some e
      have := (List.getElem?_inj hlt h.nd).1 (n1.trans n2.symm); omega
  exact ⟨h.fl, fun m hm => Tr.in_set _ _ _ _ (h.up m hm), h.nd.sublist ((List.eraseIdx_sublist Γ i).map _), fun x hx => h.lt x (hm x hx).1,
    fun x hx hw => (Tr.get_set_other _ _ _ _ (hm x hx).2).trans (h.get x (hm x hx).1 hw)⟩
theorem elems_at {size n p o : Nat} {b : Blk} {c : Nat} (h : H.get p = some b) (hn : o + n * size ≤ b.cells.length) (hc : c = n) : elemsA H size n (sl p o c 0) = some ((b.cells.drop o).take (n * size)) := by
  unfold elemsA
  simp only
  split
  · rename_i h0
    have h0 := Nat.eq_of_beq_eq_true h0
    subst h0; simp
  · rw [readCells_eq]
    rw [h]
    simp only [cellsAt, takeN_eq, dropN_eq, lenN_eq]
    have : ((b.cells.drop o).take (n * size)).length = n * size := by rw [List.length_take, List.length_drop]; omega
    rw [this, Nat.beq_refl]
theorem elems_sl {size n p o c : Nat} {b : Blk} (h : H.get p = some b) (hn : o + n * size ≤ b.cells.length) : elemsA H size n (sl p o n c) = some ((b.cells.drop o).take (n * size)) := elems_at h hn rfl
theorem room_of {n bytes : Nat} (h : n * bytes ≤ 140737488355328) (h2 : n ≤ 9223372036854775807) : roomB n bytes = true := by
  unfold roomB
  rw [Bool.and_eq_true, ble_eq, ble_eq]
  refine ⟨decide_eq_true ?_, decide_eq_true h2⟩
  rw [Nat.mul_assoc]; omega

/-- append onto a slice of the call's own, the last of the list: at least one element -/
theorem append_own {size bytes n m : Nat} {v x : Value} {cs new : List Value} (h : St H (Γ ++ outB v cs)) (hv : Own size v n cs) (hp : 0 < size) (hm : lenA x = some m) (hx : elemsA H size m x = some new) (hm0 : 0 < m)
    (hr : (n + m) * bytes ≤ 140737488355328) (hr2 : n + m ≤ 9223372036854775807) (h1 : new.all oneCell = true) (hlen : new.length = m * size)
    (hk : ∀ p H', St H' (Γ ++ [(p, ⟨cs ++ new, true⟩)]) → Own size (sl p 0 (n + m) (2 * size)) (n + m) (cs ++ new) → K (sl p 0 (n + m) (2 * size)) H') : opW (appendWith size bytes v x H) K := by
  have own' : ∀ p, Own size (sl p 0 (n + m) (2 * size)) (n + m) (cs ++ new) := fun p => .inr ⟨p, .inl rfl, by rw [List.length_append, hlen, hv.len, Nat.add_mul]⟩
  unfold appendWith
  simp only [hm, hx]
  have hmb : Nat.beq m 0 = false := by
    cases hb : Nat.beq m 0 with
    | false => rfl
    | true => have := Nat.eq_of_beq_eq_true hb; omega
  rcases hv with ⟨rfl, rfl, rfl⟩ | ⟨p, hv, hl⟩
  · unfold appendTo
    simp only [hmb, Bool.false_eq_true, if_false]
    rw [if_pos (room_of (by simpa using hr) (by omega))]
    refine opW_i (show newSlice new m (2 * size) H = some (sl H.next 0 m (2 * size), H.push new) from rfl) ?_
    have h : St H Γ := by simpa [outB] using h
    have := hk _ _ (h.push new) (own' _)
    rw [Nat.zero_add] at this; exact this
  · have hΓ : outB v cs = [(p, ⟨cs, true⟩)] := by rcases hv with rfl | rfl <;> rfl
    rw [hΓ] at h
    have hi : (Γ ++ [(p, (⟨cs, true⟩ : Blk))])[Γ.length]? = some (p, ⟨cs, true⟩) := by simp
    have hget := h.at _ hi (.inl rfl)
    have her := h.erase hi
    have he : (Γ ++ [(p, (⟨cs, true⟩ : Blk))]).eraseIdx Γ.length = Γ := by
      rw [List.eraseIdx_append_of_length_le (Nat.le_refl _)]; simp
    rw [he] at her
    unfold appendTo
    rcases hv with rfl | rfl
    · simp only [hmb, Bool.false_eq_true, if_false]
      rw [if_pos (room_of hr hr2)]
      have hodd : Nat.beq (2 * size) (2 * size + 1) = false := by
        cases hb : Nat.beq (2 * size) (2 * size + 1) with
        | false => rfl
        | true => have := Nat.eq_of_beq_eq_true hb; omega
      rw [hodd]
      simp only [Bool.false_eq_true, if_false, Nat.beq_refl, if_true]
      unfold appendOpen
      rw [hget]
      have e : (Heap.mayWrite H p ⟨cs, true⟩ && (Nat.ble (0 + n * size) (lenN cs) && allN oneCell new)) = true := by
        unfold Heap.mayWrite
        rw [h.fl, lenN_eq, allN_eq, h1, ble_eq, ble_eq, decide_eq_true (by omega : 0 + n * size ≤ cs.length)]
        simp
      simp only [e]
      have e2 : appN (dropN (takeN cs (0 + n * size)) 0) new = cs ++ new := by
        rw [appN_eq, dropN_eq, takeN_eq, List.take_of_length_le (by omega)]; rfl
      rw [e2]
      exact opW_i (show newSlice (cs ++ new) (n + m) (2 * size) (H.set p none) = some (sl H.next 0 (n + m) (2 * size), (H.set p none).push (cs ++ new)) from rfl) (hk _ _ (her.push _) (own' _))
    · simp only [hmb, Bool.false_eq_true, if_false]
      rw [if_pos (room_of hr hr2)]
      simp only [Nat.beq_refl, if_true]
      unfold appendClosed
      have e3 : (if Nat.beq n 0 = true then some [] else readCells H p 0 (n * size)) = some cs := by
        split
        · rename_i h0
          have h0 := Nat.eq_of_beq_eq_true h0
          subst h0
          have : cs = [] := List.length_eq_zero_iff.1 (by omega)
          rw [this]
        · rw [readCells_eq]
          rw [hget]
          simp only [cellsAt, takeN_eq, dropN_eq, lenN_eq, List.drop_zero]
          rw [List.take_of_length_le (by omega), hl, Nat.beq_refl]
      rw [e3]
      simp only [appN_eq]
      have hΓ0 : St H Γ := h.left
      exact opW_i (show newSlice (cs ++ new) (n + m) (2 * size) H = some (sl H.next 0 (n + m) (2 * size), H.push (cs ++ new)) from rfl) (hk _ _ (hΓ0.push _) (own' _))
end
end Go.Ab
