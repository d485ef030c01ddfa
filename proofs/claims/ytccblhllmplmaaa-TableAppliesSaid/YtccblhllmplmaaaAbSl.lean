import Derived.Test.YtccblhllmplmaaaAbWs
namespace Go.Ab
open Go
set_option linter.unusedVariables false
set_option linter.unusedSectionVars false

abbrev ptr (p o : Nat) : Value := .pointer (some ⟨p, o, none⟩)
abbrev int (n : Int) : Value := .int .i64 n
/-- a slice: of the block p, from the cell o on, n elements; c says of which size, and whether it is closed -/
abbrev sl (p o n c : Nat) : Value := .slice (some ⟨p, o, none⟩) n c
abbrev nilSl : Value := .slice none 0 0

section pure
variable {P : Program} {H H' : Heap} {k : IntKind}
theorem opW_some {v : Value} {H : Heap} {K : Value → Heap → Prop} : opW (some (v, H)) K = K v H := by
  unfold opW; apply propext; constructor
  · rintro ⟨v', H', h, hk⟩; cases h; exact hk
  · intro h; exact ⟨_, _, rfl, h⟩
theorem opP_some {v : Value} {K : Value → Prop} : opP (some v) K = K v := by
  unfold opP; apply propext; constructor
  · rintro ⟨v', h, hk⟩; cases h; exact hk
  · intro h; exact ⟨_, rfl, h⟩
theorem withH_v {v : Value} {H : Heap} : withH H (some v) = some (v, H) := rfl
theorem wIf_true {A B : Prop} : wIf (.bool true) A B = A := by
  unfold wIf; apply propext; constructor
  · intro h; exact h.1 rfl
  · intro h; exact ⟨fun _ => h, fun e => (by cases e), true, rfl⟩
theorem wIf_false {A B : Prop} : wIf (.bool false) A B = B := by
  unfold wIf; apply propext; constructor
  · intro h; exact h.2.1 rfl
  · intro h; exact ⟨fun e => (by cases e), fun _ => h, false, rfl⟩
theorem wIf_intro {b : Bool} {A B : Prop} (h1 : b = true → A) (h2 : b = false → B) : wIf (.bool b) A B :=
  ⟨fun e => h1 (by cases e; rfl), fun e => h2 (by cases e; rfl), b, rfl⟩
theorem wIf_dec {p : Prop} [Decidable p] {A B : Prop} (h1 : p → A) (h2 : ¬ p → B) : wIf (.bool (decide p)) A B :=
  wIf_intro (fun h => h1 (of_decide_eq_true h)) (fun h => h2 (of_decide_eq_false h))
theorem pick_true {a b : Value} : pickA (.bool true) a b = some a := rfl
theorem pick_false {a b : Value} : pickA (.bool false) a b = some b := rfl
theorem nilCheck_ptr {a : Addr} : nilCheckA (.pointer (some a)) = some (.pointer (some a)) := rfl
theorem offPtr_ptr {o p q : Nat} : offPtr o (ptr p q) = some (ptr p (q + o)) := rfl
theorem nth_zero {v : Value} {l : List Value} : nth (v :: l) 0 = v := rfl
theorem nth_succ {v : Value} {l : List Value} {n : Nat} : nth (v :: l) (n + 1) = nth l n := rfl
theorem lenSl_sl {a : Option Addr} {n c : Nat} {H : Heap} : lenSl (.slice a n c) H = some (.int .i64 n, H) := rfl
theorem cellsL_int {n : Int} : cellsL (.int k n) = [.int k n] := rfl

theorem kindB_self : kindB k k = true := by cases k <;> rfl
theorem binC_int {op : BinOp} {t : TypeId} {c : Bool} (a b : Int) (h : isShift op = none) : (binC P op t c).f (.int k a) (.int k b) = intF op k a b := by
  unfold binC; rw [h]; simp only [kindB_self]
variable {t : TypeId} {c : Bool} {a b : Int}
theorem bin_add : (binC P .add t c).f (.int k a) (.int k b) = some (.int k (wrapA k (a + b))) := binC_int a b rfl
theorem bin_sub : (binC P .sub t c).f (.int k a) (.int k b) = some (.int k (wrapA k (a - b))) := binC_int a b rfl
theorem bin_mul : (binC P .mul t c).f (.int k a) (.int k b) = some (.int k (wrapA k (a * b))) := binC_int a b rfl
theorem bin_eql : (binC P .eql t c).f (.int k a) (.int k b) = some (.bool (decide (a = b))) := by rw [binC_int a b rfl]; show some (Value.bool (eqB a b)) = _; rw [eqB_eq]
theorem bin_neq : (binC P .neq t c).f (.int k a) (.int k b) = some (.bool (decide (a ≠ b))) := by rw [binC_int a b rfl]; show some (Value.bool (not (eqB a b))) = _; rw [eqB_eq]; simp
theorem bin_lss : (binC P .lss t c).f (.int k a) (.int k b) = some (.bool (decide (a < b))) := by
  rw [binC_int a b rfl]; show some (Value.bool (not (leB b a))) = _; rw [leB_eq]
  congr 2; by_cases h : a < b
  · rw [decide_eq_true h, decide_eq_false (by omega)]; rfl
  · rw [decide_eq_false h, decide_eq_true (by omega)]; rfl
theorem bin_gtr : (binC P .gtr t c).f (.int k a) (.int k b) = some (.bool (decide (b < a))) := by
  rw [binC_int a b rfl]; show some (Value.bool (not (leB a b))) = _; rw [leB_eq]
  congr 2; by_cases h : b < a
  · rw [decide_eq_true h, decide_eq_false (by omega)]; rfl
  · rw [decide_eq_false h, decide_eq_true (by omega)]; rfl
theorem bin_leq : (binC P .leq t c).f (.int k a) (.int k b) = some (.bool (decide (a ≤ b))) := by rw [binC_int a b rfl]; show some (Value.bool (leB a b)) = _; rw [leB_eq]
theorem bin_geq : (binC P .geq t c).f (.int k a) (.int k b) = some (.bool (decide (b ≤ a))) := by rw [binC_int a b rfl]; show some (Value.bool (leB b a)) = _; rw [leB_eq]
theorem un_not {b : Bool} : unA .not (.bool b) = some (.bool !b) := rfl
theorem min_two : minA [.int k a, .int k b] = some (.int k (min a b)) := by
  show some (Value.int k (cond (leB a b) a b)) = _
  rw [leB_eq]; by_cases h : a ≤ b
  · rw [decide_eq_true h]; show some (Value.int k a) = _; rw [Int.min_eq_left h]
  · rw [decide_eq_false h]; show some (Value.int k b) = _; rw [Int.min_eq_right (by omega)]
theorem max_two : maxA [.int k a, .int k b] = some (.int k (max a b)) := by
  show some (Value.int k (cond (leB b a) a b)) = _
  rw [leB_eq]; by_cases h : b ≤ a
  · rw [decide_eq_true h]; show some (Value.int k a) = _; rw [Int.max_eq_left h]
  · rw [decide_eq_false h]; show some (Value.int k b) = _; rw [Int.max_eq_right (by omega)]
theorem wrap_i {n : Int} (h1 : -9223372036854775808 ≤ n) (h2 : n ≤ 9223372036854775807) : wrapA .i64 n = n := by
  show signedW 9223372036854775808 18446744073709551616 n = n
  unfold signedW
  cases n with
  | ofNat m =>
    have h2 : (m : Int) ≤ 9223372036854775807 := h2
    have : Nat.blt m 9223372036854775808 = true := by rw [blt_eq]; exact decide_eq_true (by omega)
    simp only [this]
  | negSucc m =>
    have : Nat.blt m 9223372036854775808 = true := by rw [blt_eq]; exact decide_eq_true (by omega)
    simp only [this]
/-- two bools -/
theorem cond_beq_self {n : Nat} {A B : Prop} : cond (Nat.beq n n) A B = A := by rw [Nat.beq_refl]; rfl
theorem idxSl_ok {p o n c size : Nat} {i : Int} (h0 : 0 ≤ i) (h1 : i < n) : idxSl size (sl p o n c) (.int k i) = some (ptr p (o + i.toNat * size)) := by
  show idxPtr n size (ptr p o) (.int k i) = _
  unfold idxPtr
  have e1 : leB 0 i = true := by rw [leB_eq]; exact decide_eq_true h0
  have e2 : Nat.blt i.toNat n = true := by rw [blt_eq]; exact decide_eq_true (by omega)
  simp only [e1, e2]
  rfl
theorem idxPtr_ok {p o n size : Nat} {i : Int} (h0 : 0 ≤ i) (h1 : i < n) : idxPtr n size (ptr p o) (.int k i) = some (ptr p (o + i.toNat * size)) := by
  unfold idxPtr
  have e1 : leB 0 i = true := by rw [leB_eq]; exact decide_eq_true h0
  have e2 : Nat.blt i.toNat n = true := by rw [blt_eq]; exact decide_eq_true (by omega)
  simp only [e1, e2]
  rfl
end pure

/-! a tree in which all numbers below N have a place -/
namespace Tr
variable {α : Type}
def In : Tr α → Nat → Prop
  | .nil, _ => False
  | .node _ _ _, 0 => True
  | .node l _ r, k + 1 => if k % 2 = 0 then In l (k / 2) else In r (k / 2)
def Up (t : Tr α) (N : Nat) : Prop := ∀ m, m < N → In t m
theorem set_succ (l r : Tr α) (x v : Option α) (n : Nat) : (Tr.node l x r).set (n + 1) v = if n % 2 = 0 then .node (l.set (n / 2) v) x r else .node l x (r.set (n / 2) v) := by
  have e : (Tr.node l x r).set (n + 1) v = cond (Nat.beq (Nat.mod n 2) 0) (.node (l.set (Nat.div n 2) v) x r) (.node l x (r.set (Nat.div n 2) v)) := rfl
  rw [e]
  cases h : Nat.beq (Nat.mod n 2) 0 with
  | true => rw [if_pos (show n % 2 = 0 from Nat.eq_of_beq_eq_true h)]; rfl
  | false => rw [if_neg (show ¬ n % 2 = 0 from Nat.ne_of_beq_eq_false h)]; rfl
theorem get_succ (l r : Tr α) (x : Option α) (n : Nat) : (Tr.node l x r).get (n + 1) = if n % 2 = 0 then l.get (n / 2) else r.get (n / 2) := by
  rw [get_node_succ]
  cases h : Nat.beq (Nat.mod n 2) 0 with
  | true => rw [if_pos (show n % 2 = 0 from Nat.eq_of_beq_eq_true h)]; rfl
  | false => rw [if_neg (show ¬ n % 2 = 0 from Nat.ne_of_beq_eq_false h)]; rfl
theorem in_set (t : Tr α) (n m : Nat) (v : Option α) (h : In t m) : In (t.set n v) m := by
  induction t generalizing n m with
  | nil => exact h.elim
  | node l x r il ir =>
    cases n with
    | zero => cases m <;> exact h
    | succ n =>
      rw [set_succ]
      cases m with
      | zero => split <;> exact trivial
      | succ m =>
        have h : (if m % 2 = 0 then In l (m / 2) else In r (m / 2)) := h
        split
        · show (if m % 2 = 0 then In (l.set (n / 2) v) (m / 2) else In r (m / 2))
          split
          · rename_i hm; rw [if_pos hm] at h; exact il _ _ h
          · rename_i hm; rw [if_neg hm] at h; exact h
        · show (if m % 2 = 0 then In l (m / 2) else In (r.set (n / 2) v) (m / 2))
          split
          · rename_i hm; rw [if_pos hm] at h; exact h
          · rename_i hm; rw [if_neg hm] at h; exact ir _ _ h
theorem up_set (t : Tr α) (n : Nat) (v : Option α) (h : Up t n) : (t.set n v).get n = v ∧ In (t.set n v) n := by
  induction t generalizing n with
  | nil =>
    cases n with
    | zero => exact ⟨rfl, trivial⟩
    | succ n => exact (h 0 (Nat.succ_pos _)).elim
  | node l x r il ir =>
    cases n with
    | zero => exact ⟨rfl, trivial⟩
    | succ n =>
      rw [set_succ]
      split
      · rename_i hn
        have hl : Up l (n / 2) := fun m hm => by
          have := h (2 * m + 1) (by omega)
          have : (if (2 * m) % 2 = 0 then In l (2 * m / 2) else In r (2 * m / 2)) := this
          rw [if_pos (by omega), show 2 * m / 2 = m by omega] at this; exact this
        obtain ⟨i1, i2⟩ := il _ hl
        refine ⟨by rw [get_succ, if_pos hn]; exact i1, ?_⟩
        show (if n % 2 = 0 then In (l.set (n / 2) v) (n / 2) else _)
        rw [if_pos hn]; exact i2
      · rename_i hn
        have hr : Up r (n / 2) := fun m hm => by
          have := h (2 * m + 2) (by omega)
          have : (if (2 * m + 1) % 2 = 0 then In l ((2 * m + 1) / 2) else In r ((2 * m + 1) / 2)) := this
          rw [if_neg (by omega), show (2 * m + 1) / 2 = m by omega] at this; exact this
        obtain ⟨i1, i2⟩ := ir _ hr
        refine ⟨by rw [get_succ, if_neg hn]; exact i1, ?_⟩
        show (if n % 2 = 0 then _ else In (r.set (n / 2) v) (n / 2))
        rw [if_neg hn]; exact i2
end Tr

/-! what is known of a heap: its blocks, each with a place in a list -/
structure St (H : Heap) (Γ : List (Nat × Blk)) : Prop where
  fl : H.floor = 0
  up : H.t.Up H.next
  nd : (Γ.map (·.1)).Nodup
  lt : ∀ x ∈ Γ, x.1 < H.next
  get : ∀ x ∈ Γ, (x.2.wr = true ∨ x.2.cells ≠ []) → H.get x.1 = some x.2

section st
variable [Orc] {P : Program} {H : Heap} {Γ Δ : List (Nat × Blk)}
theorem St.at (h : St H Γ) (i : Nat) {p : Nat} {b : Blk} (hi : Γ[i]? = some (p, b)) (hx : b.wr = true ∨ b.cells ≠ []) : H.get p = some b := h.get (p, b) (List.mem_of_getElem? hi) hx
theorem St.sub (h : St H Γ) (hs : Δ.Sublist Γ) : St H Δ :=
  ⟨h.fl, h.up, h.nd.sublist (hs.map _), fun x hx => h.lt x (hs.subset hx), fun x hx => h.get x (hs.subset hx)⟩
theorem St.take (h : St H Γ) (n : Nat) : St H (Γ.take n) := h.sub (List.take_sublist n Γ)
theorem St.left (h : St H (Γ ++ Δ)) : St H Γ := h.sub (List.sublist_append_left Γ Δ)
theorem St.perm (h : St H Γ) (hp : Γ.Perm Δ) : St H Δ :=
  ⟨h.fl, h.up, (hp.map _).nodup_iff.1 h.nd, fun x hx => h.lt x (hp.mem_iff.2 hx), fun x hx => h.get x (hp.mem_iff.2 hx)⟩
theorem push_get_new (H : Heap) (hu : H.t.Up H.next) (cs : List Value) : (H.push cs).get H.next = some ⟨cs, true⟩ := (Tr.up_set _ _ _ hu).1
theorem push_get_old (H : Heap) (cs : List Value) {i : Nat} (h : i ≠ H.next) : (H.push cs).get i = H.get i := Tr.get_set_other _ _ _ _ h
theorem St.push (h : St H Γ) (cs : List Value) : St (H.push cs) (Γ ++ [(H.next, ⟨cs, true⟩)]) := by
  refine ⟨h.fl, fun m hm => ?_, ?_, fun x hx => ?_, fun x hx hw => ?_⟩
  · by_cases he : m = H.next
    · subst he; exact (Tr.up_set _ _ _ h.up).2
    · have hm : m < H.next + 1 := hm
      exact Tr.in_set _ _ _ _ (h.up m (by omega))
  · rw [List.map_append, List.map_cons, List.map_nil, List.nodup_append]
    refine ⟨h.nd, by simp, fun a ha b hb => ?_⟩
    obtain ⟨x, hx, rfl⟩ := List.mem_map.1 ha
    have := h.lt x hx
    simp at hb
    omega
  · show x.1 < H.next + 1
    rcases List.mem_append.1 hx with hx | hx
    · have := h.lt x hx; omega
    · simp at hx; subst hx; exact Nat.lt_succ_self _
  · rcases List.mem_append.1 hx with hx | hx
    · have := h.lt x hx
      rw [push_get_old H cs (by omega)]; exact h.get x hx hw
    · simp at hx; subst hx; exact push_get_new H h.up cs
theorem new_at {cs : List Value} {K : Value → Heap → Prop} (h : St H Γ) (hk : ∀ p H', St H' (Γ ++ [(p, ⟨cs, true⟩)]) → K (ptr p 0) H') : wNew cs H K := hk _ _ (h.push cs)

theorem loadOne_get {p o : Nat} {b : Blk} {v : Value} (h : H.get p = some b) (hv : b.cells[o]? = some v) : loadOne (ptr p o) H = some (v, H) := by
  show withH H (readCell H p o) = _
  unfold readCell; rw [h]; simp only [atN_eq, hv]; rfl
theorem load_at {p o : Nat} {b : Blk} {v : Value} {K : Value → Heap → Prop} (h : St H Γ) (i : Nat) (hi : Γ[i]? = some (p, b)) (hv : b.cells[o]? = some v) (hk : K v H) : opW (loadOne (ptr p o) H) K := by
  rw [loadOne_get (h.at i hi (.inr fun e => by rw [e] at hv; cases hv)) hv, opW_some]; exact hk
theorem loadAgg_get {p o n : Nat} {b : Blk} (h : H.get p = some b) (hn : n ≤ b.cells.length - o) : loadAgg n (ptr p o) H = some (.agg ((b.cells.drop o).take n).toArray, H) := by
  unfold loadAgg
  simp only [readCells_eq]
  simp only [h, takeN_eq, dropN_eq, cellsAt, lenN_eq]
  have : ((b.cells.drop o).take n).length = n := by rw [List.length_take, List.length_drop]; omega
  rw [this, Nat.beq_refl]
theorem loadAgg_at {p o n : Nat} {b : Blk} {cs : List Value} {K : Value → Heap → Prop} (h : St H Γ) (i : Nat) (hi : Γ[i]? = some (p, b)) (hv : (b.cells.drop o).take n = cs) (hn : cs.length = n) (hp : 0 < n) (hk : K (.agg cs.toArray) H) : opW (loadAgg n (ptr p o) H) K := by
  subst hv
  rw [loadAgg_get (h.at i hi (.inr fun e => by rw [e] at hn; simp at hn; omega)) (by rw [List.length_take, List.length_drop] at hn; omega), opW_some]; exact hk

theorem set_nodup {i : Nat} {p : Nat} {b b' : Blk} (hi : Γ[i]? = some (p, b)) : (Γ.set i (p, b')).map (·.1) = Γ.map (·.1) := by
  apply List.ext_getElem?
  intro j
  rw [List.getElem?_map, List.getElem?_map, List.getElem?_set]
  by_cases h : i = j
  · subst h
    have : i < Γ.length := (List.getElem?_eq_some_iff.1 hi).1
    rw [if_pos rfl, if_pos this, hi]; rfl
  · rw [if_neg h]
theorem St.upd (h : St H Γ) {i p : Nat} {b : Blk} (hi : Γ[i]? = some (p, b)) (hx : b.wr = true ∨ b.cells ≠ []) (b' : Blk) : St (H.set p (some b')) (Γ.set i (p, b')) := by
  have hm : ∀ x ∈ Γ.set i (p, b'), x = (p, b') ∨ (x ∈ Γ ∧ x.1 ≠ p) := by
    intro x hx
    obtain ⟨j, hj⟩ := List.mem_iff_getElem?.1 hx
    rw [List.getElem?_set] at hj
    by_cases he : i = j
    · subst he
      rw [if_pos rfl] at hj
      split at hj
      · cases hj; exact .inl rfl
      · cases hj
    · rw [if_neg he] at hj
      refine .inr ⟨List.mem_of_getElem? hj, fun e => he ?_⟩
      have n1 : (Γ.map (·.1))[i]? = some p := by rw [List.getElem?_map, hi]; rfl
      have n2 : (Γ.map (·.1))[j]? = some p := by rw [List.getElem?_map, hj]; exact congrArg some e
      exact (List.getElem?_inj (by rw [List.length_map]; exact (List.getElem?_eq_some_iff.1 hi).1) h.nd).1 (n1.trans n2.symm)
  refine ⟨h.fl, fun m hm => Tr.in_set _ _ _ _ (h.up m hm), by rw [set_nodup hi]; exact h.nd, fun x hx => ?_, fun x hx hw => ?_⟩
  · rcases hm x hx with rfl | ⟨hx, _⟩
    · exact h.lt (p, b) (List.mem_of_getElem? hi)
    · exact h.lt x hx
  · rcases hm x hx with rfl | ⟨hx, hne⟩
    · exact Tr.get_set_same _ _ _ _ (h.at i hi ‹_›)
    · exact (Tr.get_set_other _ _ _ _ hne).trans (h.get x hx hw)
theorem write_at (h : St H Γ) {i p o : Nat} {cs vs : List Value} (hi : Γ[i]? = some (p, ⟨cs, true⟩)) (hn : o + vs.length ≤ cs.length) (h1 : vs.all oneCell = true) :
    ∃ H', writeCells H p o vs = some H' ∧ St H' (Γ.set i (p, ⟨cs.take o ++ (vs ++ cs.drop (o + vs.length)), true⟩)) := by
  refine ⟨_, ?_, h.upd hi (.inl rfl) _⟩
  rw [writeCells_eq]
  rw [h.at i hi (.inl rfl)]
  have e : (Heap.mayWrite H p ⟨cs, true⟩ && (Nat.ble (o + lenN vs) (lenN cs) && allN oneCell vs)) = true := by
    unfold Heap.mayWrite
    rw [h.fl]
    simp only [lenN_eq, allN_eq, h1, ble_eq, Nat.zero_le, decide_true, Bool.and_true, Bool.true_and, decide_eq_true_eq, hn]
  simp only
  rw [e]
  simp only [appN_eq, takeN_eq, dropN_eq, lenN_eq]
theorem store_at {n p o : Nat} {v : Value} {cs : List Value} {K : Value → Heap → Prop} (h : St H Γ) (i : Nat) (hi : Γ[i]? = some (p, ⟨cs, true⟩)) (hl : (cellsL v).length = n) (hn : o + n ≤ cs.length) (h1 : (cellsL v).all oneCell = true)
    (hk : ∀ H', St H' (Γ.set i (p, ⟨cs.take o ++ (cellsL v ++ cs.drop (o + n)), true⟩)) → K undef H') : opW (storeTo n (ptr p o) v H) K := by
  obtain ⟨H', hw, hs⟩ := write_at h (o := o) (vs := cellsL v) hi (by omega) h1
  unfold storeTo
  simp only [lenN_eq, hl, Nat.beq_refl, if_true, hw, opW_some]
  exact hk H' (by rw [← hl]; exact hs)
theorem store1_at {p o : Nat} {v : Value} {cs cs' : List Value} {K : Value → Heap → Prop} (h : St H Γ) (i : Nat) (hi : Γ[i]? = some (p, ⟨cs, true⟩)) (h1 : oneCell v = true) (hn : o < cs.length) (hc : cs.set o v = cs')
    (hk : ∀ H', St H' (Γ.set i (p, ⟨cs', true⟩)) → K undef H') : opW (storeTo 1 (ptr p o) v H) K := by
  have hv : cellsL v = [v] := by cases v <;> first | rfl | (cases h1; done)
  refine store_at h i hi (by rw [hv]; rfl) (by omega) (by rw [hv]; simp [h1]) fun H' hO => hk H' ?_
  have e : cs.take o ++ (cellsL v ++ cs.drop (o + 1)) = cs' := by
    rw [hv, ← hc]
    apply List.ext_getElem?
    intro j
    rw [List.getElem?_set]
    by_cases hj : j < o
    · rw [List.getElem?_append_left (by rw [List.length_take]; omega), List.getElem?_take, if_pos hj, if_neg (by omega)]
    · rw [List.getElem?_append_right (by rw [List.length_take]; omega), List.length_take, Nat.min_eq_left (by omega)]
      by_cases hj2 : j = o
      · subst hj2; simp [hn]
      · rw [List.getElem?_append_right (by simp; omega), List.getElem?_drop, if_neg (Ne.symm hj2)]
        congr 1; simp; omega
  rw [e] at hO; exact hO

/-! the same block, before and behind -/
def simple0 : Value → Bool
  | .bool _ => true
  | .int _ _ => true
  | .string _ => true
  | .pointer a => match a with | none => true | some a => a.spot.isNone
  | .slice a _ _ => match a with | none => true | some a => a.spot.isNone
  | .map a => a.isNone
  | .nilFunc => true
  | .nilIface => true
  | _ => false
def isFnB : Fn → Bool
  | .func _ => true
  | _ => false
def simpleB : Value → Bool
  | .iface _ v => simple0 v
  | .func f a b => isFnB f && (a.toList.all simple0 && b.toList.all simple0)
  | v => simple0 v
theorem all2N_refl {α : Type} {p : α → α → Bool} : ∀ l : List α, (∀ x ∈ l, p x x = true) → all2N p l l = true
  | [], _ => rfl
  | x :: l, h => by
    show cond (p x x) (all2N p l l) false = true
    rw [h x (by simp)]; exact all2N_refl l fun y hy => h y (by simp [hy])
theorem eqAddr_refl {a : Option Addr} (h : (match a with | none => true | some a => a.spot.isNone) = true) : eqAddr a a = true := by
  cases a with
  | none => rfl
  | some a =>
    obtain ⟨i, o, s⟩ := a
    cases s with
    | none => show (Nat.beq i i && Nat.beq o o) = true; rw [Nat.beq_refl, Nat.beq_refl]; rfl
    | some _ => cases h
theorem eqCellW_simple0 (sub : Value → Value → Bool) {v : Value} (h : simple0 v = true) : eqCellW sub v v = true := by
  cases v <;> first | (cases h; done) | skip
  case bool b => cases b <;> rfl
  case int k n => show (kindB k k && eqB n n) = true; rw [kindB_self, eqB_eq]; simp
  case string s => show all2N eqByte s.data.toList s.data.toList = true; exact all2N_refl _ fun x _ => Nat.beq_refl _
  case pointer a => exact eqAddr_refl h
  case slice a n c => show (eqAddr a a && (Nat.beq n n && Nat.beq c c)) = true; rw [eqAddr_refl h, Nat.beq_refl, Nat.beq_refl]; rfl
  case map a => cases a with
    | none => rfl
    | some _ => cases h
  case nilFunc => rfl
  case nilIface => rfl
theorem eqCell_simple {v : Value} (h : simpleB v = true) : eqCell v v = true := by
  cases v <;> first | exact eqCellW_simple0 _ h | skip
  case iface t v => show (Nat.beq t t && eqCellW _ v v) = true; rw [Nat.beq_refl, eqCellW_simple0 _ h]; rfl
  case func f a b =>
    have h : (isFnB f && (a.toList.all simple0 && b.toList.all simple0)) = true := h
    rw [Bool.and_eq_true, Bool.and_eq_true, List.all_eq_true, List.all_eq_true] at h
    obtain ⟨h0, h1, h2⟩ := h
    cases f <;> first | (cases h0; done) | skip
    rename_i g
    show (Nat.beq g g && (all2N _ a.toList a.toList && all2N _ b.toList b.toList)) = true
    rw [Nat.beq_refl, all2N_refl _ fun x hx => eqCellW_simple0 _ (h1 x hx), all2N_refl _ fun x hx => eqCellW_simple0 _ (h2 x hx)]; rfl
theorem sameB_of {H H' : Heap} {p : Nat} {b : Blk} (h : H.get p = some b) (h' : H'.get p = some b) (hs : b.cells.all simpleB = true) : sameB H H' p = true := by
  unfold sameB
  rw [h, h']
  simp only
  rw [all2N_refl _ fun x hx => eqCell_simple (List.all_eq_true.1 hs x hx)]
  cases b.wr <;> rfl
theorem same_nil {s : Nat → Bool} : cSame s (idsOf []) := rfl
theorem same_skip {s : Nat → Bool} {v : Value} {l : List Value} (hv : idOf v = none) (h : cSame s (idsOf l)) : cSame s (idsOf (v :: l)) := by
  unfold idsOf; rw [List.filterMap_cons, hv]; exact h
theorem same_cons {s : Nat → Bool} {p o : Nat} {l : List Value} (hp : s p = true) (h : cSame s (idsOf l)) : cSame s (idsOf (ptr p o :: l)) := by
  have e : idsOf (ptr p o :: l) = p :: idsOf l := rfl
  unfold cSame at *
  rw [e, allN_eq, List.all_cons, hp]
  rw [allN_eq] at h
  exact h
theorem same_at {H H' : Heap} {Δ : List (Nat × Blk)} {p o : Nat} {b : Blk} (h : St H Γ) (i : Nat) (hi : Γ[i]? = some (p, b)) (h' : St H' Δ) (j : Nat) (hj : Δ[j]? = some (p, b)) (hs : b.cells.all simpleB = true) (hx : b.wr = true ∨ b.cells ≠ [] := by exact .inl rfl) : cSame (sameB H H') (idsOf [ptr p o]) :=
  same_cons (sameB_of (h.at i hi hx) (h'.at j hj hx) hs) same_nil
theorem ints_simple {k : IntKind} (l : List Int) : (l.map (Value.int k)).all simpleB = true := by simp [simpleB, simple0]

/-! one step each -/
theorem opP_i {r : Option Value} {v : Value} {K : Value → Prop} (h : r = some v) (hk : K v) : opP r K := ⟨v, h, hk⟩
theorem opW_i {r : R} {v : Value} {H' : Heap} {K : Value → Heap → Prop} (h : r = some (v, H')) (hk : K v H') : opW r K := ⟨v, H', h, hk⟩
theorem wIf_yes {p : Prop} [Decidable p] {A B : Prop} (h : p) (hA : A) : wIf (.bool (decide p)) A B := by rw [decide_eq_true h, wIf_true]; exact hA
theorem wIf_no {p : Prop} [Decidable p] {A B : Prop} (h : ¬ p) (hB : B) : wIf (.bool (decide p)) A B := by rw [decide_eq_false h, wIf_false]; exact hB
theorem pick_yes {p : Prop} [Decidable p] {a b : Value} (h : p) : pickA (.bool (decide p)) a b = some a := by rw [decide_eq_true h]; rfl
theorem pick_no {p : Prop} [Decidable p] {a b : Value} (h : ¬ p) : pickA (.bool (decide p)) a b = some b := by rw [decide_eq_false h]; rfl
theorem cond_yes {b : Bool} {A B : Prop} (h : b = true) (hA : A) : cond b A B := by rw [h]; exact hA
theorem cond_no {b : Bool} {A B : Prop} (h : b = false) (hB : B) : cond b A B := by rw [h]; exact hB
theorem bin_addi {t : TypeId} {c : Bool} {a b : Int} (h1 : -9223372036854775808 ≤ a + b) (h2 : a + b ≤ 9223372036854775807) : (binC P .add t c).f (.int .i64 a) (.int .i64 b) = some (.int .i64 (a + b)) := by rw [bin_add, wrap_i h1 h2]
theorem bin_subi {t : TypeId} {c : Bool} {a b : Int} (h1 : -9223372036854775808 ≤ a - b) (h2 : a - b ≤ 9223372036854775807) : (binC P .sub t c).f (.int .i64 a) (.int .i64 b) = some (.int .i64 (a - b)) := by rw [bin_sub, wrap_i h1 h2]
theorem bin_muli {t : TypeId} {c : Bool} {a b : Int} (h1 : -9223372036854775808 ≤ a * b) (h2 : a * b ≤ 9223372036854775807) : (binC P .mul t c).f (.int .i64 a) (.int .i64 b) = some (.int .i64 (a * b)) := by rw [bin_mul, wrap_i h1 h2]
theorem min_w {H : Heap} {k : IntKind} {a b : Int} : withH H (minA [.int k a, .int k b]) = some (.int k (min a b), H) := by rw [min_two]; rfl
theorem max_w {H : Heap} {k : IntKind} {a b : Int} : withH H (maxA [.int k a, .int k b]) = some (.int k (max a b), H) := by rw [max_two]; rfl

/-- a loop's J, laid by hand; or the rest of the text itself -/
theorem join_with {A : (List Value → Heap → Prop) → Prop} {B : List Value → Heap → Prop} (J : List Value → Heap → Prop) (h1 : A J) (h2 : ∀ l H, J l H → B l H) : wJoin A B := ⟨J, h1, h2⟩
theorem join_inline {A : (List Value → Heap → Prop) → Prop} {B : List Value → Heap → Prop} (h1 : A B) : wJoin A B := ⟨B, h1, fun _ _ h => h⟩
theorem wCall_mono {f : FuncId} {args : List Value} {K K' : Value → Heap → Prop} (h : wCall P f args H K) (hk : ∀ v H, K v H → K' v H) : wCall P f args H K' := by
  obtain ⟨n, ex, v, H', h1, h2⟩ := h
  exact ⟨n, ex, v, H', h1, hk _ _ h2⟩
end st
end Go.Ab
