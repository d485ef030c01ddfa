import Derived.Test.YtccblhllmplmaaaAbMem
namespace Go.Ab
open Go

section
variable {P : Program} {σ : Loc} {B : Nat} {h : Nat → Option Blk} {H H' : Heap} {w : World}

theorem bytesB_run {t : TypeId} {n : Nat} (h : (P.info? t).map (·.bytes) = some n) : ∃ i, P.info? t = some i ∧ i.bytes = n := by
  cases hi : P.info? t with
  | none => rw [hi] at h; cases h
  | some i => rw [hi] at h; exact ⟨i, rfl, by simpa using h⟩

theorem newSlice_ok {v : Value} {cs cs' rest : List Value} {len c : Nat} (hs : SimF σ B h w) (hB : B ≤ w.heap.size) (hid : ∀ i, H.next ≤ i → i < H'.next → σ i = none) (hc : VRs σ cs cs') (t : TypeId) (fr : Nat × Nat)
    (hfr : fr.1 ≤ fr.2 ∧ ∀ i, i < cs'.length + rest.length → (fr.1 ≤ i && i < fr.2) = false) (k : Nat) (hn : newSlice cs len c H = some (v, H')) :
    ∃ τ id, v = .slice (some ⟨id, 0, none⟩) len c ∧ τ id = some (w.heap.size, 0, cs'.length + rest.length) ∧
      Goes B σ h H.next w τ (upd h H H') H'.next { w with heap := w.heap.push (.cells (cs' ++ rest).toArray t fr), drawn := k } := by
  simp only [newSlice, Heap.new] at hn
  cases hn
  obtain ⟨τ, h1, h2⟩ := new_does hs hB (hid H.next (Nat.le_refl _) (Nat.lt_succ_self _)) cs cs' rest t fr hc hfr k
  exact ⟨τ, H.next, rfl, h1, h2⟩

theorem makeSlice_ok {t : TypeId} {l l' c c' v : Value} (hs : SimF σ B h w) (hB : B ≤ w.heap.size) (hid : ∀ i, H.next ≤ i → i < H'.next → σ i = none) (hl : VR σ l l') (hc : VR σ c c')
    (hr : (makeSliceC P t).f l c H = some (v, H')) : Does P B (Instr.makeSlice t l' c') w σ h H v H' := by
  unfold makeSliceC at hr
  split at hr
  case h_2 => cases hr
  case h_1 e hu =>
  split at hr
  case h_2 => cases hr
  case h_1 size z bytes hs1 hs2 hs3 =>
  split at hr
  case isFalse => cases hr
  case isTrue hq =>
  simp only [Bool.and_eq_true, blt_eq, lenN_eq, decide_eq_true_eq] at hq
  obtain ⟨hq1, hq2⟩ := hq
  have hq2 := Nat.eq_of_beq_eq_true hq2
  unfold makeSl at hr
  cases l <;> simp only at hr <;> try cases hr
  rename_i k n
  cases c <;> simp only at hr <;> try cases hr
  rename_i k2 m
  rw [hl.int_inv, hc.int_inv]
  split at hr
  case isFalse => cases hr
  case isTrue a1 =>
  split at hr
  case isFalse => cases hr
  case isTrue a2 =>
  split at hr
  case isFalse => cases hr
  case isTrue a3 =>
  simp only [Bool.and_eq_true, ble_eq, decide_eq_true_eq] at a3
  obtain ⟨a3, a4⟩ := a3
  obtain ⟨i0, hi, hby⟩ := bytesB_run hs3
  have hsz : i0.size = size := by simp [sizeB, hi] at hs1; exact hs1
  obtain ⟨z1, z2⟩ := zeroB_run hs2 w
  have zc : VRs σ (cellsL z) z.cells.toList := (constOk_VR z2).cells
  have hzl : z.cells.size = size := by rw [← hq2, ← cellsL_self, Array.length_toList]
  have hrep : VRs σ (repl n.toNat (cellsL z)) (repl n.toNat z.cells.toList) := zc.repl _
  have hn1 : IntKind.i64.wrap n = n := by rw [IntKind.wrap_i64]; omega
  have hm1 : IntKind.i64.wrap m = m := by rw [IntKind.wrap_i64]; omega
  have hnm : n.toNat ≤ m.toNat := by omega
  obtain ⟨d, hd⟩ : ∃ d, m.toNat = n.toNat + d := ⟨m.toNat - n.toNat, by omega⟩
  have hsplit : repl m.toNat z.cells.toList = repl n.toNat z.cells.toList ++ repl d z.cells.toList := by
    rw [hd]
    generalize n.toNat = a
    induction a with
    | zero => simp [repl]
    | succ a ih =>
      have e : ∀ q : Nat, repl (q + 1) z.cells.toList = z.cells.toList ++ repl q z.cells.toList := fun q => by show appN _ _ = _; rw [appN_eq]
      rw [show a + 1 + d = (a + d) + 1 by omega, e, e, ih, List.append_assoc]
  obtain ⟨τ, id, rfl, hτ, hg⟩ := newSlice_ok (rest := repl d z.cells.toList) hs hB hid hrep e (0, 0) (by simp) w.drawn hr
  have hlen : (repl n.toNat z.cells.toList).length + (repl d z.cells.toList).length = m.toNat * size := by
    rw [repl_length, repl_length, Array.length_toList, hzl, hd, Nat.add_mul]
  rw [hlen] at hτ
  refine ⟨.slice (some ⟨w.heap.size, 0, none⟩) n.toNat m.toNat, _, τ, ?_, ?_, hg⟩
  · have htl : ((bytes : Int) * m > 2 ^ 48) = False := by
      apply propext; constructor
      · intro hh
        have e1 : (bytes : Int) * m = ((m.toNat * bytes : Nat) : Int) := by rw [Int.natCast_mul, Int.toNat_of_nonneg (by omega), Int.mul_comm]
        have e2 : (2 : Int) ^ 48 = 281474976710656 := by decide
        rw [e1, e2] at hh; omega
      · exact False.elim
    have hcond : ((decide (m < 0) || decide ((bytes : Int) * m > 2 ^ 48) || decide (n < 0) || decide (n > m)) = true) = False := by
      simp only [htl, decide_false, Bool.or_false]
      apply propext; constructor
      · intro hh; simp at hh; omega
      · exact False.elim
    simp only [Instr.makeSlice, Sem.run_bind, run_underlying hu, Result.andThen_ok, asInt, asIntOf, Sem.run_pure, typeInfo, run_program, hi, hn1, hm1, hby]
    rw [Sem.run_ite]
    rw [if_neg (fun hh => by rw [hcond] at hh; exact hh)]
    simp only [Sem.run_bind, run_askRoom, Result.andThen_ok, sizeB_run hs1]
    by_cases h0 : m.toNat * size = 0
    · have hm0 : m.toNat = 0 := by rcases Nat.mul_eq_zero.1 h0 with h | h <;> omega
      have hn0 : n.toNat = 0 := by omega
      have hd0 : d = 0 := by omega
      have hz0 : (Array.range (m.toNat * size)).map (fun i => (#[] : Array Value)[i % (#[] : Array Value).size]!) = #[] := Array.eq_empty_of_size_eq_zero (by rw [Array.size_map, Array.size_range]; exact h0)
      rw [if_pos h0]
      simp only [Sem.run_bind, Sem.run_pure, Result.andThen_ok, hz0, newRow, run_newObj]
      simp [hm0, hn0, hd0, repl]
    · rw [if_neg h0]
      simp only [Sem.run_bind, z1, Result.andThen_ok, Sem.run_pure, newRow, run_newObj]
      have he := repl_eq m.toNat z.cells
      rw [hzl] at he
      have harr : ((Array.range (m.toNat * size)).map fun i => z.cells[i % z.cells.size]!) = (repl n.toNat z.cells.toList ++ repl d z.cells.toList).toArray := by
        apply Array.ext'
        rw [hzl, he, hsplit]
      rw [harr]
  · rw [eqB_eq]
    by_cases hnm' : n = m
    · subst hnm'
      simp only [decide_true, cond]
      exact slice_new_full hτ hq1 (Nat.le_refl _)
    · simp only [hnm', decide_false, cond]
      exact slice_new_open hτ hq1 hnm (Nat.le_refl _)

theorem fillL_length (place : Nat → Option (Nat × Nat)) : ∀ (parts : List (Nat × Value)) (cells l : List Value), fillL place cells parts = some l → l.length = cells.length
  | [], cells, l, hf => by cases hf; rfl
  | (i, v) :: rest, cells, l, hf => by
    unfold fillL at hf
    cases hp : place i with
    | none => rw [hp] at hf; cases hf
    | some os =>
      obtain ⟨off, size⟩ := os
      rw [hp] at hf
      simp only at hf
      split at hf
      · rename_i hq
        simp only [lenN_eq, ble_eq, Bool.and_eq_true, decide_eq_true_eq] at hq
        have := fillL_length place rest _ l hf
        rw [this, appN_eq, appN_eq, takeN_eq, dropN_eq, lenN_eq]
        simp; omega
      · cases hf

theorem buildSlice_ok {t : TypeId} {len : Nat} {parts parts' : List (Nat × Value)} {v : Value} (hs : SimF σ B h w) (hB : B ≤ w.heap.size) (hid : ∀ i, H.next ≤ i → i < H'.next → σ i = none)
    (hr : (buildSliceC P t len).f parts H = some (v, H')) (h1 : parts.map (·.1) = parts'.map (·.1)) (h2 : VRs σ (parts.map (·.2)) (parts'.map (·.2))) :
    Does P B (Instr.buildSlice t len parts'.toArray) w σ h H v H' := by
  unfold buildSliceC at hr
  split at hr
  case h_2 => cases hr
  case h_1 e hu =>
  split at hr
  case h_2 => cases hr
  case h_1 size hs1 =>
  split at hr
  case h_2 => cases hr
  case h_1 z hs2 =>
  split at hr
  case h_2 => cases hr
  case h_1 hq =>
  simp only [Bool.and_eq_true, blt_eq, ble_eq, lenN_eq, decide_eq_true_eq] at hq
  obtain ⟨hq0, hq1, hq2⟩ := hq
  have hq2 := Nat.eq_of_beq_eq_true hq2
  obtain ⟨z1, z2⟩ := zeroB_run hs2 w
  have zc : VRs σ (cellsL z) z.cells.toList := (constOk_VR z2).cells
  have hzl : z.cells.size = size := by rw [← hq2, ← cellsL_self, Array.length_toList]
  simp only [buildSl] at hr
  cases hf : fillL (fun i => some (i * size, size)) (repl len (cellsL z)) parts with
  | none => rw [hf] at hr; cases hr
  | some cs =>
    rw [hf] at hr
    simp only at hr
    have he := repl_eq len z.cells
    rw [hzl] at he
    obtain ⟨l', f1, f2⟩ := fillL_ok _ parts parts' (repl len (cellsL z)) ((Array.range (len * size)).map fun i => z.cells[i % size]!) cs (by rw [he]; exact zc.repl len) h1 h2 hf
    obtain ⟨τ, id, rfl, hτ, hg⟩ := newSlice_ok (rest := []) hs hB hid f2 e (0, 0) (by simp) w.drawn hr
    refine ⟨.slice (some ⟨w.heap.size, 0, none⟩) len len, _, τ, ?_, slice_new_full hτ hq1 (by rw [← f2.length, fillL_length _ _ _ _ hf, repl_length, hq2]; simp), hg⟩
    simp only [Instr.buildSlice, Sem.run_bind, run_underlying hu, Result.andThen_ok, sizeB_run hs1]
    rw [Sem.run_ite, if_neg (by omega)]
    by_cases h0 : len * size = 0
    · have hl0 : (Array.range (len * size)).map (fun i => z.cells[i % size]!) = #[] := Array.eq_empty_of_size_eq_zero (by rw [Array.size_map, Array.size_range]; exact h0)
      rw [hl0] at f1
      have hz0 : (Array.range (len * size)).map (fun i => (#[] : Array Value)[i % (#[] : Array Value).size]!) = #[] := Array.eq_empty_of_size_eq_zero (by rw [Array.size_map, Array.size_range]; exact h0)
      rw [if_pos h0]
      simp only [Sem.run_bind, Sem.run_pure, Result.andThen_ok, hz0, f1, newRow, run_newObj]
      simp
    · rw [if_neg h0]
      simp only [Sem.run_bind, z1, Sem.run_pure, Result.andThen_ok, hzl, f1, newRow, run_newObj]
      simp
end
end Go.Ab
