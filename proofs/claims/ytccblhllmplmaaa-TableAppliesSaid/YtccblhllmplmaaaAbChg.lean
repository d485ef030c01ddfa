import Derived.Test.YtccblhllmplmaaaAbMono
namespace Go.Ab
open Go

/-- what a step changes -/
def Cg (l : List Nat) (H H' : Heap) : Prop := ∀ id, H'.get id ≠ H.get id → id ∈ l ∨ (H.next ≤ id ∧ id < H'.next)
theorem Cg.refl (l : List Nat) (H : Heap) : Cg l H H := fun _ h => absurd rfl h
theorem new_cg {H : Heap} (l : List Nat) (cs : List Value) : Cg l H ⟨H.t.set H.next (some ⟨cs, true⟩), Nat.succ H.next, H.floor, H.lps⟩ := fun id h => by
  by_cases hi : id = H.next
  · subst hi; exact .inr ⟨Nat.le_refl _, Nat.lt_succ_self _⟩
  · exact absurd (Tr.get_set_other _ _ _ _ hi) h
section
variable {P : Program} {H H' : Heap}
theorem newRef_cg {l : List Nat} {cs : List Value} {v : Value} (hr : newRef cs H = some (v, H')) : Cg l H H' := by
  simp only [newRef, Heap.new] at hr; cases hr; exact new_cg l cs
theorem newSlice_cg {l : List Nat} {cs : List Value} {n c : Nat} {v : Value} (hr : newSlice cs n c H = some (v, H')) : Cg l H H' := by
  simp only [newSlice, Heap.new] at hr; cases hr; exact new_cg l cs
theorem write_cg {l : List Nat} {id off : Nat} {vs : List Value} (hid : id ∈ l) (hr : writeCells H id off vs = some H') : Cg l H H' := by
  rw [writeCells_eq] at hr
  split at hr
  · split at hr
    · cases hr
      intro i hi
      by_cases he : i = id
      · subst he; exact .inl hid
      · exact absurd (Tr.get_set_other _ _ _ _ he) hi
    · cases hr
  · cases hr
theorem appendTo_cg {l : List Nat} {size bytes n : Nat} {s v : Value} {new : List Value} (hid : ∀ i, idOf s = some i → i ∈ l) (hr : appendTo size bytes s new n H = some (v, H')) : Cg l H H' := by
  unfold appendTo at hr
  split at hr
  case h_2 => cases hr
  case h_1 a len c =>
  split at hr
  case h_1 =>
    split at hr
    · cases hr; exact Cg.refl _ _
    · split at hr
      · exact newSlice_cg hr
      · cases hr
  case h_2 id off sp =>
    split at hr
    · cases hr
    · split at hr
      · cases hr; exact Cg.refl _ _
      · split at hr
        · split at hr
          · unfold appendClosed at hr
            split at hr
            · exact newSlice_cg hr
            · cases hr
          · split at hr
            · unfold appendOpen at hr
              split at hr
              · split at hr
                · simp only [newSlice, Heap.new, Heap.set] at hr
                  cases hr
                  intro i hi
                  by_cases he : i = H.next
                  · subst he; exact .inr ⟨Nat.le_refl _, Nat.lt_succ_self _⟩
                  · by_cases he2 : i = id
                    · subst he2; exact .inl (hid _ rfl)
                    · exact absurd ((Tr.get_set_other _ _ _ _ he).trans (Tr.get_set_other _ _ _ _ he2)) hi
                · cases hr
              · cases hr
            · cases hr
        · cases hr
theorem mem_ids {x : Value} {l : List Value} (hx : x ∈ l) : ∀ i, idOf x = some i → i ∈ idsOf l := fun _ hi => List.mem_filterMap.2 ⟨x, hx, hi⟩

theorem two_cg {g : Value → Value → Heap → R} {l : List Value} {v : Value} (hg : ∀ x y, l = [x, y] → g x y H = some (v, H') → Cg (idsOf l) H H') (hr : two g l H = some (v, H')) : Cg (idsOf l) H H' := by
  unfold two at hr
  split at hr
  · exact hg _ _ rfl hr
  · cases hr

theorem builtin_cg {b : Builtin} {ts : List TypeId} {l : List Value} {v : Value} (hr : (builtinC P b ts).f l H = some (v, H')) :
    ((b = .append ∨ b = .copy ∨ b = .clear) ∧ Cg (idsOf l) H H') ∨ H' = H := by
  unfold builtinC at hr
  cases b <;> simp only at hr <;> first | (cases hr; done) | skip
  case append =>
    left
    refine ⟨.inl rfl, ?_⟩
    unfold appendAny at hr
    split at hr
    case h_2 => cases hr
    case h_1 =>
    split at hr
    case h_1 =>
      unfold appendZ at hr
      split at hr
      · split at hr
        · split at hr
          · split at hr
            · refine two_cg (fun x y hl hr => ?_) hr
              unfold appendZeros at hr
              split at hr
              · split at hr
                · cases hr
                · split at hr
                  · split at hr
                    · split at hr
                      · split at hr
                        · cases hr; exact Cg.refl _ _
                        · split at hr
                          · exact newSlice_cg hr
                          · cases hr
                      · cases hr
                    · cases hr
                  · cases hr
              · cases hr
            · cases hr
          · cases hr
        · cases hr
      · cases hr
    case h_2 =>
    unfold appendC at hr
    simp only at hr
    split at hr
    · split at hr
      · split at hr
        · split at hr
          · refine two_cg (fun x y hl hr => ?_) hr
            unfold appendWith at hr
            split at hr
            · split at hr
              · exact appendTo_cg (mem_ids (by rw [hl]; simp)) hr
              · cases hr
            · cases hr
          · cases hr
        · cases hr
      · cases hr
    · cases hr
  case clear =>
    left
    refine ⟨.inr (.inr rfl), ?_⟩
    split at hr
    · unfold one at hr
      simp only at hr
      split at hr
      · rename_i x
        unfold clearC at hr
        split at hr
        · split at hr
          · simp only [clearTo] at hr
            split at hr
            · split at hr
              · cases hr; exact Cg.refl _ _
              · split at hr
                · cases hr; exact Cg.refl _ _
                · split at hr
                  · cases hr
                  · split at hr
                    · rename_i hw; cases hr; exact write_cg (mem_ids (List.mem_cons_self ..) _ rfl) hw
                    · cases hr
            · cases hr
          · cases hr
        · cases hr
      · cases hr
    · cases hr
  case copy =>
    left
    refine ⟨.inr (.inl rfl), ?_⟩
    unfold copyC at hr
    split at hr
    · split at hr
      · split at hr
        · split at hr
          · refine two_cg (fun x y hl hr => ?_) hr
            unfold copyTo at hr
            split at hr
            · split at hr
              · simp only at hr
                split at hr
                · cases hr; exact Cg.refl _ _
                · split at hr
                  · split at hr
                    · cases hr
                    · split at hr
                      · split at hr
                        · rename_i hw; cases hr; exact write_cg (mem_ids (by rw [hl]; exact List.mem_cons_self ..) _ rfl) hw
                        · cases hr
                      · cases hr
                  · cases hr
              · cases hr
            · cases hr
          · cases hr
        · cases hr
      · cases hr
    · cases hr
  case len =>
    right
    split at hr
    · unfold one at hr
      simp only at hr
      split at hr
      · unfold lenC at hr
        split at hr
        · simp only at hr; split at hr <;> first | (cases hr; done) | (cases hr; rfl)
        · cases hr; rfl
        · simp only at hr; split at hr <;> first | (cases hr; done) | (cases hr; rfl)
        · cases hr
      · cases hr
    · cases hr
  case cap =>
    right
    split at hr
    · unfold one at hr
      simp only at hr
      split at hr
      · exact (capC_some hr).1
      · cases hr
    · cases hr
  case max => right; exact (withH_some hr).1
  case min => right; exact (withH_some hr).1

theorem opC_cg {op : Op} {T : List Value} {v : Value} (hr : (opC P op).f T H = some (v, H')) :
    ((kindC P op = 4 ∧ Cg (idsOf (evs op.operands.toList T)) H H') ∨ (kindC P op = 2 ∧ Cg [] H H')) ∨ H' = H := by
  cases op <;> simp only [opC] at hr <;> first | (cases hr; done) | (exact .inr (withH_some hr).1) | (cases hr; exact .inr rfl) | skip
  case pick c x y => right; split at hr <;> first | (cases hr; done) | (split at hr <;> (cases hr; rfl))
  case alloc t => left; right; refine ⟨rfl, ?_⟩; split at hr <;> first | (cases hr; done) | exact newRef_cg hr
  case box t x => exact .inl (.inr ⟨rfl, newRef_cg hr⟩)
  case buildSlice t len parts =>
    left; right; refine ⟨rfl, ?_⟩
    unfold buildSliceC at hr
    split at hr
    · split at hr
      · split at hr
        · split at hr
          · simp only [buildSl] at hr
            split at hr
            · exact newSlice_cg hr
            · cases hr
          · cases hr
        · cases hr
      · cases hr
    · cases hr
  case load t x =>
    right
    unfold loadC at hr
    split at hr
    · simp only [loadAgg] at hr
      split at hr
      · split at hr
        · split at hr
          · split at hr <;> first | (cases hr; done) | (cases hr; rfl)
          · cases hr
        · cases hr
      · cases hr
    · simp only [loadOne] at hr
      split at hr
      · split at hr
        · split at hr
          · exact (withH_some hr).1
          · cases hr
        · cases hr
      · cases hr
    · cases hr
  case store t x y =>
    left; left; refine ⟨rfl, ?_⟩
    split at hr
    · simp only [storeTo] at hr
      split at hr
      · rename_i hv
        split at hr
        · split at hr
          · split at hr
            · split at hr
              · rename_i hw; cases hr
                refine write_cg (mem_ids (x := (evC x).g T) ?_ _ (by rw [hv]; rfl)) hw
                rw [evs_map]
                exact List.mem_map.2 ⟨x, by simp [Op.operands], rfl⟩
              · cases hr
            · cases hr
          · cases hr
        · cases hr
      · cases hr
    · cases hr
  case convert s d x =>
    unfold convC at hr
    split at hr
    · right
      split at hr
      · simp only at hr; split at hr <;> first | (cases hr; done) | (cases hr; rfl)
      · cases hr
    · right
      split at hr
      · simp only at hr; split at hr <;> first | (cases hr; done) | (cases hr; rfl)
      · split at hr
        · simp only [bytesToStr] at hr
          split at hr
          · split at hr
            · cases hr; rfl
            · split at hr
              · cases hr
              · split at hr
                · cases hr; rfl
                · split at hr
                  · split at hr <;> first | (cases hr; done) | (cases hr; rfl)
                  · cases hr
          · cases hr
        · cases hr
      · cases hr
    · rename_i hd
      split at hr
      · rename_i hsd
        left; right
        refine ⟨by simp only [kindC, hd, hsd], ?_⟩
        split at hr
        · simp only [strToBytes] at hr
          split at hr
          · exact newSlice_cg hr
          · cases hr
        · cases hr
      · right
        split at hr
        · exact keepSl_same hr
        · cases hr
      · cases hr
    · cases hr
  case makeInterface t x => right; split at hr <;> first | (cases hr; done) | (cases hr; rfl)
  case makeFunc fn x y => right; split at hr <;> first | (cases hr; done) | (cases hr; rfl)
  case makeSlice t x y =>
    left; right; refine ⟨rfl, ?_⟩
    unfold makeSliceC at hr
    split at hr
    · split at hr
      · split at hr
        · simp only [makeSl] at hr
          split at hr
          · split at hr
            · split at hr
              · split at hr
                · split at hr
                  · exact newSlice_cg hr
                  · cases hr
                · cases hr
              · cases hr
            · cases hr
          · cases hr
        · cases hr
      · cases hr
    · cases hr
  case extract x i => right; split at hr <;> first | (cases hr; done) | (exact (withH_some hr).1)
  case call c =>
    split at hr
    · rename_i b hb
      rcases builtin_cg hr with ⟨h1, h2⟩ | h
      · left; left
        refine ⟨by rcases h1 with e | e | e <;> simp only [kindC, hb, e], ?_⟩
        intro id hid
        rcases h2 id hid with h | h
        · left
          have : evs (Op.call c).operands.toList T = evs c.args.toList T := by
            simp [Op.operands, Call.operands, hb]
          rw [this]; exact h
        · exact .inr h
      · exact .inr h
    · cases hr

theorem opC_congr {op : Op} {T T' : List Value} (h : ∀ x ∈ op.operands.toList, (evC x).g T = (evC x).g T') : (opC P op).f T H = (opC P op).f T' H := by
  have evsE : ∀ l : List Operand, (∀ x ∈ l, (evC x).g T = (evC x).g T') → evs l T = evs l T' := fun l hl => by
    rw [evs_map, evs_map]; exact List.map_congr_left hl
  have partsE : ∀ l : List (Nat × Operand), (∀ p ∈ l, (evC p.2).g T = (evC p.2).g T') → evParts l T = evParts l T' := by
    intro l
    induction l with
    | nil => intro _; rfl
    | cons p r ih => intro hl; obtain ⟨i, o⟩ := p; show (i, (evC o).g T) :: evParts r T = (i, (evC o).g T') :: evParts r T'; rw [hl (i, o) (by simp), ih fun q hq => hl q (by simp [hq])]
  have optE : ∀ o : Option Operand, (∀ x, o = some x → (evC x).g T = (evC x).g T') → evO o T = evO o T' := by
    intro o ho; cases o with
    | none => rfl
    | some x => show some _ = some _; rw [ho x rfl]
  cases op <;> simp only [opC]
  case move x => rw [h x (by simp [Op.operands])]
  case assign x => rw [h x (by simp [Op.operands])]
  case pick c x y => rw [h c (by simp [Op.operands]), h x (by simp [Op.operands]), h y (by simp [Op.operands])]
  case alloc t => split <;> rfl
  case box t x => rw [h x (by simp [Op.operands])]
  case build t parts => rw [partsE _ fun p hp => h p.2 (by simp [Op.operands]; exact ⟨p.1, by simpa using hp⟩)]
  case buildSlice t len parts => rw [partsE _ fun p hp => h p.2 (by simp [Op.operands]; exact ⟨p.1, by simpa using hp⟩)]
  case load t x => rw [h x (by simp [Op.operands])]
  case store t x y => split <;> first | rfl | (simp only; rw [h x (by simp [Op.operands]), h y (by simp [Op.operands])])
  case nilCheck x => rw [h x (by simp [Op.operands])]
  case binOp o t x y z => rw [h x (by simp [Op.operands]), h y (by simp [Op.operands])]
  case unOp o t x => rw [h x (by simp [Op.operands])]
  case convert s d x => rw [h x (by simp [Op.operands])]
  case makeInterface t x => split <;> first | rfl | (simp only; rw [h x (by simp [Op.operands])])
  case makeFunc fn x y =>
    split
    · simp only
      rw [evsE x.toList fun z hz => h z (by simp [Op.operands]; exact .inl (by simpa using hz)), evsE y.toList fun z hz => h z (by simp [Op.operands]; exact .inr (by simpa using hz))]
    · rfl
  case makeSlice t x y => rw [h x (by simp [Op.operands]), h y (by simp [Op.operands])]
  case slice t x lo hi mx =>
    rw [h x (by simp [Op.operands]), optE lo fun y e => h y (by subst e; simp [Op.operands]), optE hi fun y e => h y (by subst e; simp [Op.operands]), optE mx fun y e => h y (by subst e; simp [Op.operands])]
  case fieldAddr s x f => rw [h x (by simp [Op.operands])]
  case field t x f => rw [h x (by simp [Op.operands])]
  case indexAddr t x y => rw [h x (by simp [Op.operands]), h y (by simp [Op.operands])]
  case index t x y => rw [h x (by simp [Op.operands]), h y (by simp [Op.operands])]
  case typeAssert x t a ok => rw [h x (by simp [Op.operands])]
  case extract x i => rw [h x (by simp [Op.operands])]
  case call c =>
    split
    · simp only
      rw [evsE c.args.toList fun z hz => h z (by simp [Op.operands, Call.operands]; exact .inr (by simpa using hz))]
    · rfl

end
end Go.Ab
