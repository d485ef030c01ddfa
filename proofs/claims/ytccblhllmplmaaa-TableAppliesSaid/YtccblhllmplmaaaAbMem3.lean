import Derived.Test.YtccblhllmplmaaaAbMem2
namespace Go.Ab
open Go

section
variable {P : Program} {σ : Loc} {B : Nat} {h : Nat → Option Blk} {H H' : Heap} {w : World}

/-- a block that may be written gets other cells -/
theorem setRow_goes {n : Nat} (hs : SimF σ B h w) (id : Nat) (b nb : Blk) (hb : h id = some b) (hw : b.wr = true) (c o s : Nat) (arr arr' : Array Value) (ty : TypeId) (fr : Nat × Nat) (h1 : σ id = some (c, o, s))
    (h2 : w.heap[c]? = some (.cells arr ty fr)) (hsz : arr'.size = arr.size) (hfit : o + nb.cells.length ≤ s) (hv : VRs σ nb.cells ((arr'.toList.drop o).take nb.cells.length))
    (h' : Nat → Option Blk) (hl : ∀ i b', h' i = some b' → (i = id ∧ b' = nb) ∨ (i ≠ id ∧ h i = some b')) :
    Goes B σ h n w σ h' n (w.setRow c arr') := by
  obtain ⟨c', o', s', arr0, ty', fr', e1, e2, e3, e4, e5, e6⟩ := hs.blk id b hb
  rw [h1] at e1; cases e1
  rw [h2] at e2; cases e2
  have hno : ∀ j bj, j ≠ id → h j = some bj → ∀ c' o' s', σ j = some (c', o', s') → c' ≠ c := fun j bj hne hj c' o' s' hc' e => hs.excl id j b bj (Ne.symm hne) hb hj hw c o s c' o' s' h1 hc' e.symm
  refine ⟨⟨?_, ?_, ?_⟩, Nat.le_refl _, fun _ _ => rfl, fun _ _ h => h, rfl, rfl, rfl, by simp, ?_, ?_⟩
  · intro i b' hb'
    rcases hl i b' hb' with ⟨rfl, rfl⟩ | ⟨hne, hb''⟩
    · exact ⟨c, o, s, arr', ty, fr, h1, setRow_heap w c arr _ ty fr h2, hsz.trans e3, hfit, hv, fun _ => e6 hw⟩
    · obtain ⟨c2, o2, s2, arr2, ty2, fr2, g1, g2, g3, g4, g5, g6⟩ := hs.blk i b' hb''
      refine ⟨c2, o2, s2, arr2, ty2, fr2, g1, ?_, g3, g4, g5, g6⟩
      rw [setRow_other w c c2 _ (hno i b' hne hb'' c2 o2 s2 g1)]; exact g2
  · intro i b' hb' hw'
    rcases hl i b' hb' with ⟨rfl, rfl⟩ | ⟨hne, hb''⟩
    · exact hs.own i b hb hw
    · exact hs.own i b' hb'' hw'
  · intro i j bi bj hne hi hj hwi c1 o1 s1 c2 o2 s2 g1 g2
    rcases hl i bi hi with ⟨ei, rfl⟩ | ⟨hni, hi'⟩
    · rcases hl j bj hj with ⟨ej, rfl⟩ | ⟨hnj, hj'⟩
      · exact absurd (ei.trans ej.symm) hne
      · subst ei
        exact hs.excl i j b bj hne hb hj' hw c1 o1 s1 c2 o2 s2 g1 g2
    · rcases hl j bj hj with ⟨ej, rfl⟩ | ⟨hnj, hj'⟩
      · subst ej
        intro e
        exact hs.excl j i b bi (Ne.symm hne) hb hi' hw c2 o2 s2 c1 o1 s1 g2 g1 e.symm
      · exact hs.excl i j bi bj hne hi' hj' hwi c1 o1 s1 c2 o2 s2 g1 g2
  · intro k hk hno'
    refine setRow_other w c k _ ?_
    intro e; subst e
    exact hno' ⟨id, b, o, s, hb, hw, h1⟩
  · rintro k ⟨i, b', o', s', hb', hw', hc'⟩ _
    rcases hl i b' hb' with ⟨rfl, rfl⟩ | ⟨hne, hb''⟩
    · exact ⟨i, b, o', s', hb, hw, hc'⟩
    · exact ⟨i, b', o', s', hb'', hw', hc'⟩

/-- a block under another number, from a cell on -/
theorem rename_goes (hs : SimF σ B h w) (id k off : Nat) (b : Blk) (hb : h id = some b) (hw : b.wr = true) (c o s : Nat) (h1 : σ id = some (c, o, s)) (hk : σ k = none) (hoff : off ≤ b.cells.length)
    (h' : Nat → Option Blk) (hl : ∀ i b', h' i = some b' → (i = k ∧ b' = ⟨b.cells.drop off, true⟩) ∨ (i ≠ k ∧ i ≠ id ∧ h i = some b')) :
    Goes B σ h k w (fun i => if i = k then some (c, o + off, s) else σ i) h' (k + 1) w := by
  let τ : Loc := fun i => if i = k then some (c, o + off, s) else σ i
  have hmono : ∀ i x, σ i = some x → τ i = some x := fun i x hx => by
    show (if i = k then _ else σ i) = some x
    split
    · rename_i e; rw [e, hk] at hx; cases hx
    · exact hx
  have hτk : τ k = some (c, o + off, s) := if_pos rfl
  have hτ : ∀ i, i ≠ k → τ i = σ i := fun i hne => if_neg hne
  obtain ⟨c', o', s', arr, ty, fr, e1, e2, e3, e4, e5, e6⟩ := hs.blk id b hb
  rw [h1] at e1; cases e1
  refine ⟨⟨?_, ?_, ?_⟩, by omega, fun i hi => if_neg (by omega), hmono, rfl, rfl, rfl, Nat.le_refl _, fun _ _ _ => rfl, ?_⟩
  · intro i b' hb'
    rcases hl i b' hb' with ⟨rfl, rfl⟩ | ⟨hne, _, hb''⟩
    · refine ⟨c, o + off, s, arr, ty, fr, hτk, e2, e3, by simp; omega, ?_, fun _ => e6 hw⟩
      have := (e5.drop off).mono hmono
      rw [List.drop_take, List.drop_drop] at this
      simpa using this
    · obtain ⟨c2, o2, s2, arr2, ty2, fr2, g1, g2, g3, g4, g5, g6⟩ := hs.blk i b' hb''
      exact ⟨c2, o2, s2, arr2, ty2, fr2, (hτ i hne).trans g1, g2, g3, g4, g5.mono hmono, g6⟩
  · intro i b' hb' hw'
    rcases hl i b' hb' with ⟨rfl, rfl⟩ | ⟨hne, _, hb''⟩
    · obtain ⟨c2, o2, s2, g1, g2⟩ := hs.own id b hb hw
      rw [h1] at g1; cases g1
      exact ⟨_, _, _, hτk, g2⟩
    · obtain ⟨c2, o2, s2, g1, g2⟩ := hs.own i b' hb'' hw'
      exact ⟨c2, o2, s2, (hτ i hne).trans g1, g2⟩
  · intro i j bi bj hne hi hj hwi c1 o1 s1 c2 o2 s2 g1 g2
    have g1 : τ i = some (c1, o1, s1) := g1
    have g2 : τ j = some (c2, o2, s2) := g2
    rcases hl i bi hi with ⟨ei, rfl⟩ | ⟨hni, hnid, hi'⟩
    · rcases hl j bj hj with ⟨ej, rfl⟩ | ⟨hnj, hnjd, hj'⟩
      · exact absurd (ei.trans ej.symm) hne
      · rw [ei, hτk] at g1; cases g1
        rw [hτ j hnj] at g2
        exact hs.excl id j b bj (Ne.symm hnjd) hb hj' hw _ _ _ _ _ _ h1 g2
    · rw [hτ i hni] at g1
      rcases hl j bj hj with ⟨ej, rfl⟩ | ⟨hnj, hnjd, hj'⟩
      · rw [ej, hτk] at g2; cases g2
        intro e
        exact hs.excl id i b bi (Ne.symm hnid) hb hi' hw _ _ _ _ _ _ h1 g1 e.symm
      · rw [hτ j hnj] at g2
        exact hs.excl i j bi bj hne hi' hj' hwi c1 o1 s1 c2 o2 s2 g1 g2
  · rintro c0 ⟨i, b', o', s', hb', hw', hc'⟩ _
    have hc' : τ i = some (c0, o', s') := hc'
    rcases hl i b' hb' with ⟨ei, rfl⟩ | ⟨hne, _, hb''⟩
    · rw [ei, hτk] at hc'; cases hc'
      exact ⟨id, b, o, s, hb, hw, h1⟩
    · exact ⟨i, b', o', s', hb'', hw', (hτ i hne).symm.trans hc'⟩

/-! the elements that are appended, or copied -/
theorem len_ok {x x' : Value} {n : Nat} (hx : VR σ x x') (hr : lenA x = some n) : (Builtin.lenOf x').run P w = .ok n w := by
  unfold lenA at hr
  cases hx <;> simp only at hr <;> cases hr
  · rename_i s _
    show Result.ok s.size w = _
    rw [lenN_eq, Array.length_toList]; rfl
  all_goals rfl

theorem elems_ok {size n m : Nat} {x x' : Value} {l : List Value} (hs : SimF σ B h w) (ha : AgV h H x) (hx : VR σ x x') (hm : lenA x = some m) (hn : n ≤ m) (hr : elemsA H size n x = some l) :
    ∃ l', (Builtin.firstCells size n x').run P w = .ok l'.toArray w ∧ VRs σ l l' ∧ l.length = n * size := by
  unfold elemsA at hr
  cases hx <;> simp only at hr <;> try cases hr
  case string s _ =>
    split at hr
    · rename_i h1
      cases hr
      have h1 := Nat.eq_of_beq_eq_true h1
      subst h1
      have hm' : s.data.toList.length = m := by simp only [lenA, lenN_eq] at hm; exact Option.some.inj hm
      refine ⟨(s.data.toList.take n).map byteVal, ?_, by rw [takeN_eq]; exact VRs.map_int .u8 (fun b : UInt8 => ((b.toNat : Nat) : Int)) _, ?_⟩
      · show Result.ok ((s.extract 0 n).data.map fun b => Value.int .u8 b.toNat) w = _
        congr 1
        apply Array.ext'
        simp
        rfl
      · rw [takeN_eq, List.length_map, List.length_take]; omega
    · cases hr
  case slNil _ =>
    have : n = 0 := by simp [lenA] at hm; omega
    subst this
    exact ⟨[], rfl, .nil, by simp⟩
  case slFull id off len size' c o s a hσ hp hadr _ =>
    split at hr
    · rename_i h0
      cases hr
      have h0 := Nat.eq_of_beq_eq_true h0
      subst h0
      exact ⟨[], by simp [Builtin.firstCells, loadCells, loadCellsFrom], .nil, by simp⟩
    · rename_i h0
      have h0 : n ≠ 0 := fun e => by subst e; simp at h0
      have hadr : a = ⟨c, o + off, none⟩ := (hadr.resolve_left (by simp [lenA] at hm; omega)).1
      subst hadr
      obtain ⟨l', h1, h2, h3⟩ := read_ok (P := P) hs (ha id rfl) hr hσ
      exact ⟨l', h1, h2, h3⟩
  case slOpen id off len size' cap c o s a hσ hp hle hadr _ =>
    split at hr
    · rename_i h0
      cases hr
      have h0 := Nat.eq_of_beq_eq_true h0
      subst h0
      exact ⟨[], by simp [Builtin.firstCells, loadCells, loadCellsFrom], .nil, by simp⟩
    · rename_i h0
      have h0 : n ≠ 0 := fun e => by subst e; simp at h0
      have hadr : a = ⟨c, o + off, none⟩ := by
        rcases hadr with ⟨h, _⟩ | ⟨h, _⟩
        · exact h
        · simp [lenA] at hm; omega
      subst hadr
      obtain ⟨l', h1, h2, h3⟩ := read_ok (P := P) hs (ha id rfl) hr hσ
      exact ⟨l', h1, h2, h3⟩
end
end Go.Ab
