import Derived.Test.YtccblhllmplmaaaAbOp
namespace Go.Ab
open Go

/-- what no step undoes -/
structure Mo (H H' : Heap) : Prop where
  le : H.next ≤ H'.next
  fl : H'.floor = H.floor
  lp : H'.lps = H.lps
  keep : ∀ i, i < H.floor → H'.get i = H.get i
  cr : ∀ i, H.get i = none → H'.get i ≠ none → H.next ≤ i ∧ i < H'.next

theorem Mo.refl (H : Heap) : Mo H H := ⟨Nat.le_refl _, rfl, rfl, fun _ _ => rfl, fun _ h h' => absurd h h'⟩
theorem Mo.trans {H H1 H2 : Heap} (a : Mo H H1) (b : Mo H1 H2) : Mo H H2 := by
  refine ⟨Nat.le_trans a.le b.le, b.fl.trans a.fl, b.lp.trans a.lp, fun i hi => (b.keep i (by rw [a.fl]; exact hi)).trans (a.keep i hi), fun i h h2 => ?_⟩
  have h1 := a.le; have h3 := b.le
  by_cases h0 : H1.get i = none
  · have := b.cr i h0 h2; omega
  · have := a.cr i h h0; omega
theorem Mo.wf {H H' : Heap} (a : Mo H H') (h : H.floor ≤ H.next) : H'.floor ≤ H'.next := by rw [a.fl]; exact Nat.le_trans h a.le

theorem new_mo {H : Heap} (cs : List Value) (hf : H.floor ≤ H.next) : Mo H ⟨H.t.set H.next (some ⟨cs, true⟩), Nat.succ H.next, H.floor, H.lps⟩ := by
  refine ⟨Nat.le_succ _, rfl, rfl, fun i hi => Tr.get_set_other _ _ _ _ (by omega), fun i h h' => ?_⟩
  by_cases hi : i = H.next
  · subst hi; exact ⟨Nat.le_refl _, Nat.lt_succ_self _⟩
  · exact absurd ((Tr.get_set_other _ _ _ _ hi).trans h) h'
theorem newRef_mo {H H' : Heap} {cs : List Value} {v : Value} (hf : H.floor ≤ H.next) (hr : newRef cs H = some (v, H')) : Mo H H' := by
  simp only [newRef, Heap.new] at hr; cases hr; exact new_mo cs hf
theorem newSlice_mo {H H' : Heap} {cs : List Value} {n c : Nat} {v : Value} (hf : H.floor ≤ H.next) (hr : newSlice cs n c H = some (v, H')) : Mo H H' := by
  simp only [newSlice, Heap.new] at hr; cases hr; exact new_mo cs hf
theorem write_mo {H H' : Heap} {id off : Nat} {vs : List Value} (hr : writeCells H id off vs = some H') : Mo H H' := by
  rw [writeCells_eq] at hr
  cases hg : H.get id with
  | none => rw [hg] at hr; cases hr
  | some b =>
    rw [hg] at hr
    simp only at hr
    split at hr
    · rename_i hc
      cases hr
      simp only [Bool.and_eq_true, Heap.mayWrite, ble_eq, decide_eq_true_eq] at hc
      refine ⟨Nat.le_refl _, rfl, rfl, fun i hi => Tr.get_set_other _ _ _ _ (by omega), fun i h h' => ?_⟩
      by_cases hi : i = id
      · subst hi; rw [hg] at h; cases h
      · exact absurd ((Tr.get_set_other _ _ _ _ hi).trans h) h'
    · cases hr
theorem erase_mo {H : Heap} {id : Nat} (hf : H.floor ≤ id) : Mo H (H.set id none) := by
  refine ⟨Nat.le_refl _, rfl, rfl, fun i hi => Tr.get_set_other _ _ _ _ (by omega), fun i h h' => ?_⟩
  by_cases hi : i = id
  · subst hi; exact absurd (Tr.get_set_none _ _) h'
  · exact absurd ((Tr.get_set_other _ _ _ _ hi).trans h) h'

theorem keepSl_same {x v : Value} {H H' : Heap} (hr : keepSl x H = some (v, H')) : H' = H := by
  unfold keepSl at hr
  split at hr
  · split at hr
    · cases hr
    · split at hr
      · cases hr
      · split at hr
        · cases hr
        · split at hr
          · split at hr
            · cases hr; rfl
            · cases hr
          · cases hr
  · cases hr
section
variable {P : Program} {H H' : Heap}
theorem appendTo_mo {size bytes n : Nat} {s v : Value} {new : List Value} (hf : H.floor ≤ H.next) (hr : appendTo size bytes s new n H = some (v, H')) : Mo H H' := by
  unfold appendTo at hr
  split at hr
  case h_2 => cases hr
  case h_1 a len c =>
  split at hr
  case h_1 =>
    split at hr
    · cases hr; exact Mo.refl _
    · split at hr
      · exact newSlice_mo hf hr
      · cases hr
  case h_2 id off sp =>
    split at hr
    · cases hr
    · split at hr
      · cases hr; exact Mo.refl _
      · split at hr
        · split at hr
          · unfold appendClosed at hr
            split at hr
            · exact newSlice_mo hf hr
            · cases hr
          · split at hr
            · unfold appendOpen at hr
              split at hr
              · split at hr
                · rename_i b hb hc
                  simp only [Bool.and_eq_true, Heap.mayWrite, ble_eq, decide_eq_true_eq] at hc
                  exact (erase_mo hc.1.2).trans (newSlice_mo (H := H.set id none) hf hr)
                · cases hr
              · cases hr
            · cases hr
        · cases hr

theorem two_mo {g : Value → Value → Heap → R} {l : List Value} {v : Value} (hg : ∀ x y, g x y H = some (v, H') → Mo H H') (hr : two g l H = some (v, H')) : Mo H H' := by
  unfold two at hr
  split at hr
  · exact hg _ _ hr
  · cases hr
theorem one_mo {g : Value → Heap → R} {l : List Value} {v : Value} (hg : ∀ x, g x H = some (v, H') → Mo H H') (hr : one g l H = some (v, H')) : Mo H H' := by
  unfold one at hr
  split at hr
  · exact hg _ hr
  · cases hr

theorem builtin_mo {b : Builtin} {ts : List TypeId} {l : List Value} {v : Value} (hf : H.floor ≤ H.next) (hr : (builtinC P b ts).f l H = some (v, H')) : Mo H H' := by
  unfold builtinC at hr
  cases b <;> simp only at hr <;> first | (cases hr; done) | skip
  case append =>
    unfold appendAny at hr
    split at hr
    case h_2 => cases hr
    case h_1 =>
    split at hr
    case h_1 =>
      unfold appendZ at hr
      split at hr
      · split at hr
        · split at hr
          · split at hr
            · refine two_mo (fun x y hr => ?_) hr
              unfold appendZeros at hr
              split at hr
              · split at hr
                · cases hr
                · split at hr
                  · split at hr
                    · split at hr
                      · split at hr
                        · cases hr; exact Mo.refl _
                        · split at hr
                          · exact newSlice_mo hf hr
                          · cases hr
                      · cases hr
                    · cases hr
                  · cases hr
              · cases hr
            · cases hr
          · cases hr
        · cases hr
      · cases hr
    case h_2 =>
    unfold appendC at hr
    simp only at hr
    split at hr
    · split at hr
      · split at hr
        · split at hr
          · refine two_mo (fun x y hr => ?_) hr
            unfold appendWith at hr
            split at hr
            · split at hr
              · exact appendTo_mo hf hr
              · cases hr
            · cases hr
          · cases hr
        · cases hr
      · cases hr
    · cases hr
  case clear =>
    split at hr
    · refine one_mo (fun x hr => ?_) hr
      unfold clearC at hr
      split at hr
      · split at hr
        · simp only [clearTo] at hr
          split at hr
          · split at hr
            · cases hr; exact Mo.refl _
            · split at hr
              · cases hr; exact Mo.refl _
              · split at hr
                · cases hr
                · split at hr
                  · rename_i hw; cases hr; exact write_mo hw
                  · cases hr
          · cases hr
        · cases hr
      · cases hr
    · cases hr
  case copy =>
    unfold copyC at hr
    split at hr
    · split at hr
      · split at hr
        · split at hr
          · refine two_mo (fun x y hr => ?_) hr
            unfold copyTo at hr
            split at hr
            · split at hr
              · simp only at hr
                split at hr
                · cases hr; exact Mo.refl _
                · split at hr
                  · split at hr
                    · cases hr
                    · split at hr
                      · split at hr
                        · rename_i hw; cases hr; exact write_mo hw
                        · cases hr
                      · cases hr
                  · cases hr
              · cases hr
            · cases hr
          · cases hr
        · cases hr
      · cases hr
    · cases hr
  case len =>
    split at hr
    · refine one_mo (fun x hr => ?_) hr
      unfold lenC at hr
      split at hr
      · simp only at hr; split at hr <;> first | (cases hr; done) | (cases hr; exact Mo.refl _)
      · cases hr; exact Mo.refl _
      · simp only at hr; split at hr <;> first | (cases hr; done) | (cases hr; exact Mo.refl _)
      · cases hr
    · cases hr
  case cap =>
    split at hr
    · refine one_mo (fun x hr => ?_) hr
      rw [(capC_some hr).1]; exact Mo.refl _
    · cases hr
  case max => obtain ⟨rfl, _⟩ := withH_some hr; exact Mo.refl _
  case min => obtain ⟨rfl, _⟩ := withH_some hr; exact Mo.refl _

theorem opC_mo {op : Op} {T : List Value} {v : Value} (hf : H.floor ≤ H.next) (hr : (opC P op).f T H = some (v, H')) : Mo H H' := by
  cases op <;> simp only [opC] at hr <;> first | (cases hr; done) | (obtain ⟨rfl, _⟩ := withH_some hr; exact Mo.refl _) | (cases hr; exact Mo.refl _) | skip
  case pick c x y => split at hr <;> first | (cases hr; done) | (split at hr <;> (cases hr; exact Mo.refl _))
  case alloc t => split at hr <;> first | (cases hr; done) | exact newRef_mo hf hr
  case box t x => exact newRef_mo hf hr
  case buildSlice t len parts =>
    unfold buildSliceC at hr
    split at hr
    · split at hr
      · split at hr
        · split at hr
          · simp only [buildSl] at hr
            split at hr
            · exact newSlice_mo hf hr
            · cases hr
          · cases hr
        · cases hr
      · cases hr
    · cases hr
  case load t x =>
    unfold loadC at hr
    split at hr
    · simp only [loadAgg] at hr
      split at hr
      · split at hr
        · split at hr
          · split at hr <;> first | (cases hr; done) | (cases hr; exact Mo.refl _)
          · cases hr
        · cases hr
      · cases hr
    · simp only [loadOne] at hr
      split at hr
      · split at hr
        · split at hr
          · obtain ⟨rfl, _⟩ := withH_some hr; exact Mo.refl _
          · cases hr
        · cases hr
      · cases hr
    · cases hr
  case store t x y =>
    split at hr
    · simp only [storeTo] at hr
      split at hr
      · split at hr
        · split at hr
          · split at hr
            · split at hr
              · rename_i hw; cases hr; exact write_mo hw
              · cases hr
            · cases hr
          · cases hr
        · cases hr
      · cases hr
    · cases hr
  case convert s d x =>
    unfold convC at hr
    split at hr
    · split at hr
      · simp only at hr; split at hr <;> first | (cases hr; done) | (cases hr; exact Mo.refl _)
      · cases hr
    · split at hr
      · simp only at hr; split at hr <;> first | (cases hr; done) | (cases hr; exact Mo.refl _)
      · split at hr
        · simp only [bytesToStr] at hr
          split at hr
          · split at hr
            · cases hr; exact Mo.refl _
            · split at hr
              · cases hr
              · split at hr
                · cases hr; exact Mo.refl _
                · split at hr
                  · split at hr <;> first | (cases hr; done) | (cases hr; exact Mo.refl _)
                  · cases hr
          · cases hr
        · cases hr
      · cases hr
    · split at hr
      · split at hr
        · simp only [strToBytes] at hr
          split at hr
          · exact newSlice_mo hf hr
          · cases hr
        · cases hr
      · split at hr
        · rw [keepSl_same hr]; exact Mo.refl _
        · cases hr
      · cases hr
    · cases hr
  case makeInterface t x => split at hr <;> first | (cases hr; done) | (cases hr; exact Mo.refl _)
  case makeFunc fn x y => split at hr <;> first | (cases hr; done) | (cases hr; exact Mo.refl _)
  case makeSlice t x y =>
    unfold makeSliceC at hr
    split at hr
    · split at hr
      · split at hr
        · simp only [makeSl] at hr
          split at hr
          · split at hr
            · split at hr
              · split at hr
                · split at hr
                  · exact newSlice_mo hf hr
                  · cases hr
                · cases hr
              · cases hr
            · cases hr
          · cases hr
        · cases hr
      · cases hr
    · cases hr
  case extract x i => split at hr <;> first | (cases hr; done) | (obtain ⟨rfl, _⟩ := withH_some hr; exact Mo.refl _)
  case call c =>
    split at hr
    · exact builtin_mo hf hr
    · cases hr
end
end Go.Ab
