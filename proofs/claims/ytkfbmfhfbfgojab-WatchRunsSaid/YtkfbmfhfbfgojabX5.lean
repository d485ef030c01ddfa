import Derived.Test.YtkfbmfhfbfgojabX3
set_option linter.unusedVariables false
namespace W
open Go Go.Ab
variable {H : Heap} {Γ : List (Nat × Blk)} {K : Value → Heap → Prop}
section
variable {d s n : Nat} {now lim x : Int} {l : List Int}
/-! the order that both lists have -/
def Ro (l : List Int) (a b : Int) : Prop := l.getD a.toNat 0 < l.getD b.toNat 0 ∨ (l.getD a.toNat 0 = l.getD b.toNat 0 ∧ a < b)
theorem Ro.trans {a b c : Int} (h : Ro l a b) (h2 : Ro l b c) : Ro l a c := by unfold Ro at *; omega
theorem Ro.anti {a b : Int} (h : Ro l a b) (h2 : Ro l b a) : a = b := by unfold Ro at *; omega
theorem get_mid (A : List Int) (a x : Int) (B : List Int) : (A ++ a :: x :: B).getD A.length 0 = a ∧ (A ++ a :: x :: B).getD (A.length + 1) 0 = x := by
  constructor
  · simp
  · rw [List.getD_eq_getElem?_getD, List.getElem?_append_right (by omega)]; simp
theorem swp_mid (A : List Int) (a x : Int) (B : List Int) : swp (A ++ a :: x :: B) (A.length + 1) = A ++ x :: a :: B := by
  unfold swp
  rw [Nat.add_sub_cancel, (get_mid A a x B).1, (get_mid A a x B).2]
  rw [List.set_append_right _ _ (by omega), List.set_append_right _ _ (by omega)]
  simp
theorem ins_split : ∀ (n : Nat) (A : List Int) (x : Int) (B : List Int), A.length = n → ∃ S, ins (ltSeen l) n (A ++ x :: B) = S ++ B ∧ S.Perm (x :: A) ∧ (A.Pairwise (Ro l) → (∀ a ∈ A, a < x) → S.Pairwise (Ro l))
  | 0, A, x, B, h => by
    have : A = [] := List.length_eq_zero_iff.1 h
    subst this
    exact ⟨[x], rfl, List.Perm.refl _, fun _ _ => by simp⟩
  | n + 1, A, x, B, h => by
    rcases List.eq_nil_or_concat A with rfl | ⟨A', a, rfl⟩
    · simp at h
    · rw [List.concat_eq_append] at *
      have h : A'.length = n := by simpa using h
      subst h
      have g := get_mid A' a x B
      rw [List.append_assoc]
      show ∃ S, ins (ltSeen l) (A'.length + 1) (A' ++ a :: x :: B) = S ++ B ∧ _
      unfold ins
      rw [g.1, g.2, swp_mid]
      by_cases hlt : ltSeen l x a = true
      · rw [if_pos hlt]
        obtain ⟨S, e, hp, hs⟩ := ins_split A'.length A' x (a :: B) rfl
        refine ⟨S ++ [a], by rw [e, List.append_assoc]; rfl, ?_, fun h1 h2 => ?_⟩
        · refine (hp.append_right [a]).trans ?_
          simp
        · rw [List.pairwise_append] at h1 ⊢
          refine ⟨hs h1.1 fun b hb => h2 b (by simp [hb]), by simp, fun b hb c hc => ?_⟩
          have hc : c = a := by simpa using hc
          subst hc
          rcases List.mem_cons.1 (hp.mem_iff.1 hb) with rfl | hb
          · exact .inl (of_decide_eq_true hlt)
          · exact h1.2.2 b hb c (by simp)
      · rw [if_neg hlt]
        refine ⟨A' ++ [a] ++ [x], by simp, ?_, fun h1 h2 => ?_⟩
        · exact List.perm_append_comm
        · rw [List.pairwise_append]
          have hax : Ro l a x := by
            have h3 : ¬ l.getD x.toNat 0 < l.getD a.toNat 0 := fun h => hlt (decide_eq_true h)
            have h4 := h2 a (by simp)
            unfold Ro; omega
          refine ⟨h1, by simp, fun b hb c hc => ?_⟩
          have hc : c = x := by simpa using hc
          subst hc
          rcases List.mem_append.1 hb with hb | hb
          · exact Ro.trans ((List.pairwise_append.1 h1).2.2 b hb a (by simp)) hax
          · have hb : b = a := by simpa using hb
            subst hb; exact hax
theorem isrt_split (ys : List Int) (hy : ys.Pairwise (· < ·)) : ∀ (i : Nat), i ≤ ys.length → ∃ S, isrt (ltSeen l) ys i = S ++ ys.drop i ∧ S.Perm (ys.take i) ∧ S.Pairwise (Ro l) 
  | 0, _ => ⟨[], rfl, by simp, by simp⟩
  | i + 1, h => by
    have hi : i < ys.length := by omega
    obtain ⟨S, e, hp, hs⟩ := isrt_split ys hy i (by omega)
    unfold isrt
    rw [e, List.drop_eq_getElem_cons hi]
    have hl : S.length = i := by rw [hp.length_eq, List.length_take]; omega
    obtain ⟨S', e', hp', hs'⟩ := ins_split (l := l) i S ys[i] (ys.drop (i + 1)) hl
    refine ⟨S', e', ?_, hs' hs fun a ha => ?_⟩
    · rw [List.take_succ_eq_append_getElem hi]
      refine hp'.trans ((List.Perm.cons _ hp).trans ?_)
      exact (List.perm_append_comm (l₁ := [ys[i]]) (l₂ := ys.take i))
    · obtain ⟨j, hj, e⟩ := List.mem_take_iff_getElem.1 (hp.mem_iff.1 ha)
      subst e
      exact List.pairwise_iff_getElem.1 hy j i _ _ (by omega)
theorem late_inc (i : Nat) : (late now lim l i).Pairwise (· < ·) := by
  unfold late
  rw [List.pairwise_map]
  exact (List.pairwise_lt_range.filter _).imp fun h => Int.ofNat_lt.2 h
theorem late_nodup (i : Nat) : (late now lim l i).Nodup := (late_inc i).imp fun h e => by omega
theorem late_iff (i : Nat) (y : Int) : y ∈ late now lim l i ↔ (0 ≤ y ∧ y < i) ∧ lim ≤ now - l.getD y.toNat 0 := by
  unfold late
  rw [List.mem_map]
  constructor
  · rintro ⟨j, hj, rfl⟩
    obtain ⟨h1, h2⟩ := List.mem_filter.1 hj
    have := List.mem_range.1 h1
    exact ⟨⟨Int.natCast_nonneg j, Int.ofNat_lt.2 this⟩, of_decide_eq_true h2⟩
  · rintro ⟨⟨h0, h1⟩, h2⟩
    refine ⟨y.toNat, List.mem_filter.2 ⟨List.mem_range.2 (by omega), decide_eq_true h2⟩, ?_⟩
    show ((y.toNat : Nat) : Int) = y
    omega
theorem worst_eq (o : List Int) (hm : ∀ y, y ∈ o ↔ y ∈ late now lim l l.length) (hn : o.Nodup) (hs : o.Pairwise (Ro l)) : worst now lim l = o := by
  obtain ⟨S, e, hp, hs'⟩ := isrt_split (l := l) (late now lim l l.length) (late_inc _) _ (Nat.le_refl _)
  unfold worst
  rw [e]
  rw [List.drop_of_length_le (Nat.le_refl _), List.append_nil]
  rw [List.take_of_length_le (Nat.le_refl _)] at hp
  refine List.Perm.eq_of_pairwise (fun a b _ _ h1 h2 => Ro.anti h1 h2) hs' hs ?_
  refine hp.trans ?_
  exact (List.perm_ext_iff_of_nodup (late_nodup _) hn).2 fun y => (hm y).symm
/-- o is what has been picked: in order, and ahead of all that is left -/
structure Pick (now lim : Int) (l o : List Int) : Prop where
  sub : ∀ y ∈ o, y ∈ late now lim l l.length
  nd : o.Nodup
  ord : o.Pairwise (Ro l)
  rest : ∀ y ∈ late now lim l l.length, y ∉ o → ∀ a ∈ o, Ro l a y
/-- b is the first of those that are left below y -/
def Best (now lim : Int) (l o : List Int) (y : Nat) (b : Int) : Prop :=
  (b = -1 ∧ ∀ z, z ∈ late now lim l y → z ∈ o) ∨ (b ∈ late now lim l y ∧ b ∉ o ∧ ∀ z ∈ late now lim l y, z ∉ o → z = b ∨ Ro l b z)
theorem Pick.snoc {o : List Int} {b : Int} (h : Pick now lim l o) (hb : b ∈ late now lim l l.length) (hbo : b ∉ o) (hf : ∀ z ∈ late now lim l l.length, z ∉ o → z = b ∨ Ro l b z) : Pick now lim l (o ++ [b]) := by
  refine ⟨fun y hy => ?_, ?_, ?_, fun y hy hyo a ha => ?_⟩
  · rcases List.mem_append.1 hy with hy | hy
    · exact h.sub y hy
    · have : y = b := by simpa using hy
      subst this; exact hb
  · rw [List.nodup_append]
    refine ⟨h.nd, by simp, fun a ha c hc e => ?_⟩
    have : c = b := by simpa using hc
    subst this; subst e; exact hbo ha
  · rw [List.pairwise_append]
    refine ⟨h.ord, by simp, fun a ha c hc => ?_⟩
    have : c = b := by simpa using hc
    subst this; exact h.rest _ hb hbo a ha
  · have hyo' : y ∉ o ∧ y ≠ b := by simpa [not_or] using hyo
    rcases List.mem_append.1 ha with ha | ha
    · exact h.rest y hy hyo'.1 a ha
    · have : a = b := by simpa using ha
      subst this
      rcases hf y hy hyo'.1 with e | e
      · exact absurd e hyo'.2
      · exact e
theorem Best.succ {o : List Int} {y : Nat} {b : Int} (h : Best now lim l o y b) (hb' : ∀ z ∈ o, 0 ≤ z) : Best now lim l o (y + 1) (if ((y : Int) ∉ o ∧ lim ≤ now - l.getD y 0) ∧ (b < 0 ∨ l.getD y 0 < l.getD b.toNat 0) then y else b) := by
  have hm : ∀ z, z ∈ late now lim l (y + 1) ↔ z ∈ late now lim l y ∨ (z = y ∧ lim ≤ now - l.getD y 0) := by
    intro z
    rw [late_iff, late_iff]
    constructor
    · rintro ⟨h1, h2⟩
      by_cases hz : z < y
      · exact .inl ⟨⟨h1.1, hz⟩, h2⟩
      · have e : z = y := by omega
        subst e
        exact .inr ⟨rfl, by simpa using h2⟩
    · rintro (⟨h1, h2⟩ | ⟨rfl, h2⟩)
      · exact ⟨⟨h1.1, by omega⟩, h2⟩
      · exact ⟨⟨by omega, by omega⟩, by simpa using h2⟩
  split
  · rename_i hc
    right
    refine ⟨(hm _).2 (.inr ⟨rfl, hc.1.2⟩), hc.1.1, fun z hz hzo => ?_⟩
    rcases (hm z).1 hz with hz | ⟨rfl, _⟩
    · right
      rcases h with ⟨_, h⟩ | ⟨hbl, hbo, h⟩
      · exact absurd (h z hz) hzo
      · have hb0 := ((late_iff y b).1 hbl).1
        have hlt : l.getD y 0 < l.getD b.toNat 0 := by rcases hc.2 with h | h; omega; exact h
        have : Ro l (y : Int) b := .inl (by simpa using hlt)
        rcases h z hz hzo with rfl | h
        · exact this
        · exact this.trans h
    · exact .inl rfl
  · rename_i hc
    rcases h with ⟨hb, h⟩ | ⟨hbl, hbo, h⟩
    · left
      refine ⟨hb, fun z hz => ?_⟩
      rcases (hm z).1 hz with hz | ⟨rfl, h2⟩
      · exact h z hz
      · by_cases hyo : (y : Int) ∈ o
        · exact hyo
        · exact absurd ⟨⟨hyo, h2⟩, .inl (by omega)⟩ hc
    · right
      refine ⟨(hm b).2 (.inl hbl), hbo, fun z hz hzo => ?_⟩
      rcases (hm z).1 hz with hz | ⟨rfl, h2⟩
      · exact h z hz hzo
      · right
        have hb0 := ((late_iff y b).1 hbl).1
        have h3 : ¬ l.getD y 0 < l.getD b.toNat 0 := fun h => hc ⟨⟨hzo, h2⟩, .inr h⟩
        unfold Ro
        rw [Int.toNat_natCast]; omega
/-- after as many picks as there are workers, or with nothing left, all are there -/
theorem Pick.all {o : List Int} (h : Pick now lim l o) (he : o.length = l.length ∨ ∀ z, z ∈ late now lim l l.length → z ∈ o) : worst now lim l = o := by
  refine worst_eq o (fun y => ⟨h.sub y, fun hy => ?_⟩) h.nd h.ord
  rcases he with he | he
  · have h1 := late_len (now := now) (lim := lim) (l := l) l.length
    by_cases hyo : y ∈ o
    · exact hyo
    · have : (y :: o).length ≤ (late now lim l l.length).length := List.Nodup.length_le_of_subset (List.nodup_cons.2 ⟨hyo, h.nd⟩) (fun z hz => by rcases List.mem_cons.1 hz with rfl | hz; exact hy; exact h.sub z hz)
      simp only [List.length_cons] at this
      omega
  · exact he y hy
end
end W
