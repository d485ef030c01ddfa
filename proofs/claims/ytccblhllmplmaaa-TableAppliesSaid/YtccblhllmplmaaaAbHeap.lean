import Derived.Test.YtccblhllmplmaaaAbRel
import Derived.WalkKit
namespace Go.Ab
open Go

/-! what the machine's memory does -/
section
variable {P : Program}
theorem addr_add (c o i : Nat) : (⟨c, o, none⟩ : Addr).add i = ⟨c, o + i, none⟩ := by unfold Addr.add; split <;> simp_all

theorem loads_at (w : World) (c off n : Nat) (arr : Array Value) (t : TypeId) (fr : Nat × Nat) (hg : w.heap[c]? = some (.cells arr t fr)) (hn : off + n ≤ arr.size) :
    (loadCells ⟨c, off, none⟩ n).run P w = .ok ((arr.toList.drop off).take n).toArray w := by
  have hl : ((arr.toList.drop off).take n).length = n := by simp; omega
  have := run_loadCells_list (P := P) w ⟨c, off, none⟩ ((arr.toList.drop off).take n) (fun j v hv => by
    rw [addr_add]
    have hj : j < n := by
      rcases Nat.lt_or_ge j n with h | h
      · exact h
      · rw [List.getElem?_eq_none_iff.2 (by omega)] at hv; cases hv
    simp only [List.getElem?_take, hj, if_true, List.getElem?_drop] at hv
    simp only [World.cell?, hg]
    simpa using hv)
  rwa [hl] at this

theorem frozen_at (w : World) (c i : Nat) (arr : Array Value) (t : TypeId) (fr : Nat × Nat) (hg : w.heap[c]? = some (.cells arr t fr)) : w.frozen? ⟨c, i, none⟩ = (fr.1 ≤ i && i < fr.2) := by
  obtain ⟨lo, hi⟩ := fr
  simp [World.frozen?, hg]

theorem stores_at (g o : Nat) (t : TypeId) (fr : Nat × Nat) : ∀ (vs : List Value) (i : Nat) (cur : Array Value) (w : World), w.heap[g]? = some (.cells cur t fr) → o + i + vs.length ≤ cur.size → (∀ v ∈ vs, v.oneCell' = true) →
    (∀ j, j < cur.size → (fr.1 ≤ j && j < fr.2) = false) →
    (storeCells ⟨g, o, none⟩ vs i).run P w = .ok () (w.setRow g (cur.toList.take (o + i) ++ vs ++ cur.toList.drop (o + i + vs.length)).toArray)
  | [], i, cur, w, hg, _, _, _ => by
    simp only [storeCells, List.append_nil, List.length_nil, Nat.add_zero, List.take_append_drop, Array.toArray_toList]
    rw [setRow_self w g cur t fr hg]
    rfl
  | v :: rest, i, cur, w, hg, hl, h1, hf => by
    have hi : o + i < cur.size := by simp at hl; omega
    have hcell : w.cell? ⟨g, o + i, none⟩ = some cur[o + i] := by simp [World.cell?, hg, hi]
    have hfro : w.frozen? ⟨g, o + i, none⟩ = false := by rw [frozen_at w g (o + i) cur t fr hg]; exact hf _ hi
    have hst : (store ((⟨g, o, none⟩ : Addr).add i) v).run P w = .ok () (w.setRow g (cur.setIfInBounds (o + i) v)) := by
      rw [addr_add, run_store P w _ v _ (h1 v (by simp)), hcell]
      simp [hfro, setCell_eq_setRow w g (o + i) cur t fr v hg]
    have ih := stores_at g o t fr rest (i + 1) (cur.setIfInBounds (o + i) v) (w.setRow g (cur.setIfInBounds (o + i) v)) (setRow_heap w g cur _ t _ hg) (by simp at hl ⊢; omega) (fun x hx => h1 x (by simp [hx])) (by simpa using hf)
    simp only [storeCells, Sem.run_bind, hst, Result.andThen_ok, ih, setRow_setRow]
    congr 3
    have e := list_seg_step cur.toList (o + i) v rest (by simp at hl ⊢; omega)
    simpa [Array.toList_setIfInBounds, Nat.add_assoc] using e
end

namespace Tr
variable {α : Type}
theorem get_set_same (t : Tr α) (n : Nat) (v : Option α) (b : α) (h : t.get n = some b) : (t.set n v).get n = v := by
  induction t generalizing n with
  | nil => cases h
  | node l x r ihl ihr =>
    cases n with
    | zero => rfl
    | succ n =>
      have e : (Tr.node l x r).set (n + 1) v = cond (Nat.beq (Nat.mod n 2) 0) (.node (l.set (Nat.div n 2) v) x r) (.node l x (r.set (Nat.div n 2) v)) := rfl
      rw [e]
      rw [get_node_succ] at h
      cases hc : Nat.beq (Nat.mod n 2) 0 <;> rw [hc] at h <;> simp only [cond, get_node_succ] at h ⊢ <;> rw [hc]
      · exact ihr _ h
      · exact ihl _ h
end Tr

section
variable {σ τ : Loc} {B n n' : Nat} {h h' h'' : Nat → Option Blk} {w w' : World}
theorem SimF.less (hs : SimF σ B h w) (hl : ∀ id b, h' id = some b → h id = some b) : SimF σ B h' w :=
  ⟨fun id b hb => hs.blk id b (hl _ _ hb), fun id b hb => hs.own id b (hl _ _ hb), fun i j bi bj hne hi hj => hs.excl i j bi bj hne (hl _ _ hi) (hl _ _ hj)⟩
theorem Goes.less (g : Goes B σ h n w τ h'' n' w') (hl : ∀ id b, h' id = some b → h'' id = some b) : Goes B σ h n w τ h' n' w' :=
  ⟨g.sim.less hl, g.le, g.ext, g.mono, g.os, g.tape, g.output, g.size, g.keep, fun c ⟨id, b, o, s, hb, hw, hc⟩ => g.owned c ⟨id, b, o, s, hl _ _ hb, hw, hc⟩⟩

theorem SimF.block_lt (hs : SimF σ B h w) {id : Nat} {b : Blk} (hb : h id = some b) {c o s : Nat} (hc : σ id = some (c, o, s)) : c < w.heap.size := by
  obtain ⟨c', o', s', arr, ty, fr, h1, h2, _⟩ := hs.blk id b hb
  rw [hc] at h1; cases h1
  exact (Array.getElem?_eq_some_iff.1 h2).1

theorem list_get_mid {α : Type} (l : List α) (o k : Nat) (m : List α) (h : (l.drop o).take k = m) (hk : k ≤ (l.drop o).length) : m.length = k := by
  rw [← h, List.length_take]; omega

/-- a new block of the machine's, and the abstract one that it is -/
theorem new_goes (hs : SimF σ B h w) (hB : B ≤ w.heap.size) (id : Nat) (hid : σ id = none) (cs cs' rest : List Value) (t : TypeId) (fr : Nat × Nat) (hc : VRs σ cs cs')
    (hfr : fr.1 ≤ fr.2 ∧ ∀ i, i < cs'.length + rest.length → (fr.1 ≤ i && i < fr.2) = false) (k : Nat) (h' : Nat → Option Blk) (hl : ∀ i b, h' i = some b → (i = id ∧ b = ⟨cs, true⟩) ∨ (i ≠ id ∧ h i = some b)) :
    Goes B σ h id w (fun i => if i = id then some (w.heap.size, 0, cs'.length + rest.length) else σ i) h' (id + 1)
      { w with heap := w.heap.push (.cells (cs' ++ rest).toArray t fr), drawn := k } := by
  let τ : Loc := fun i => if i = id then some (w.heap.size, 0, cs'.length + rest.length) else σ i
  have hmono : ∀ i x, σ i = some x → τ i = some x := fun i x hx => by
    show (if i = id then _ else σ i) = some x
    split
    · rename_i e; rw [e, hid] at hx; cases hx
    · exact hx
  have hold : ∀ i b, h i = some b → i ≠ id := fun i b hb e => by
    obtain ⟨c, o, s, _, _, _, h1, _⟩ := hs.blk i b hb
    rw [e, hid] at h1; cases h1
  have hτid : τ id = some (w.heap.size, 0, cs'.length + rest.length) := if_pos rfl
  have hτ : ∀ i, i ≠ id → τ i = σ i := fun i hne => if_neg hne
  have hlen := hc.length
  refine ⟨⟨?_, ?_, ?_⟩, by omega, ?_, hmono, rfl, rfl, rfl, by simp, ?_, ?_⟩
  · intro i b hb
    rcases hl i b hb with ⟨rfl, rfl⟩ | ⟨hne, hb'⟩
    · refine ⟨w.heap.size, 0, _, (cs' ++ rest).toArray, t, fr, hτid, by simp, by simp, by simp [hlen], ?_, fun _ => hfr⟩
      have : ((cs' ++ rest).toArray.toList.drop 0).take cs.length = cs' := by simp [hlen]
      simp only [this]
      exact hc.mono hmono
    · obtain ⟨c, o, s, arr, ty, fr', h1, h2, h3, h4, h5, h6⟩ := hs.blk i b hb'
      have hlt : c < w.heap.size := (Array.getElem?_eq_some_iff.1 h2).1
      refine ⟨c, o, s, arr, ty, fr', (hτ i hne).trans h1, ?_, h3, h4, h5.mono hmono, h6⟩
      simpa [Array.getElem?_push, Nat.ne_of_lt hlt] using h2
  · intro i b hb hw
    rcases hl i b hb with ⟨rfl, rfl⟩ | ⟨hne, hb'⟩
    · exact ⟨_, _, _, hτid, hB⟩
    · obtain ⟨c, o, s, h1, h2⟩ := hs.own i b hb' hw
      exact ⟨c, o, s, (hτ i hne).trans h1, h2⟩
  · intro i j bi bj hne hi hj hw c o s c' o' s' h1 h2
    have h1 : τ i = some (c, o, s) := h1
    have h2 : τ j = some (c', o', s') := h2
    rcases hl i bi hi with ⟨ei, rfl⟩ | ⟨hni, hi'⟩
    · rcases hl j bj hj with ⟨ej, rfl⟩ | ⟨hnj, hj'⟩
      · exact absurd (ei.trans ej.symm) hne
      · rw [hτ j hnj] at h2
        have hlt := hs.block_lt hj' h2
        rw [ei, hτid] at h1; cases h1; omega
    · rw [hτ i hni] at h1
      rcases hl j bj hj with ⟨ej, rfl⟩ | ⟨hnj, hj'⟩
      · have hlt := hs.block_lt hi' h1
        rw [ej, hτid] at h2; cases h2; omega
      · rw [hτ j hnj] at h2
        exact hs.excl i j bi bj hne hi' hj' hw c o s c' o' s' h1 h2
  · intro i hi
    exact if_neg (by omega)
  · intro c hc' _
    simp [Array.getElem?_push, Nat.ne_of_lt hc']
  · rintro c ⟨i, b, o, s, hb, hw, hc'⟩ hlt
    have hc' : τ i = some (c, o, s) := hc'
    rcases hl i b hb with ⟨ei, rfl⟩ | ⟨hne, hb'⟩
    · rw [ei, hτid] at hc'; cases hc'; omega
    · exact ⟨i, b, o, s, hb', hw, (hτ i hne).symm.trans hc'⟩

/-- cells of a block that may be written -/
theorem write_goes (hs : SimF σ B h w) (id off : Nat) (b : Blk) (hb : h id = some b) (hw : b.wr = true) (vs vs' : List Value) (hv : VRs σ vs vs') (hlen : off + vs.length ≤ b.cells.length)
    (c o s : Nat) (arr : Array Value) (ty : TypeId) (fr : Nat × Nat) (h1 : σ id = some (c, o, s)) (h2 : w.heap[c]? = some (.cells arr ty fr))
    (h' : Nat → Option Blk) (hl : ∀ i b', h' i = some b' → (i = id ∧ b' = ⟨b.cells.take off ++ vs ++ b.cells.drop (off + vs.length), b.wr⟩) ∨ (i ≠ id ∧ h i = some b')) :
    Goes B σ h n w σ h' n (w.setRow c (arr.toList.take (o + off) ++ vs' ++ arr.toList.drop (o + off + vs'.length)).toArray) := by
  have hvl := hv.length
  obtain ⟨c', o', s', arr', ty', fr', e1, e2, e3, e4, e5, e6⟩ := hs.blk id b hb
  rw [h1] at e1; cases e1
  rw [h2] at e2; cases e2
  have hlt : c < w.heap.size := (Array.getElem?_eq_some_iff.1 h2).1
  have hno : ∀ j bj, j ≠ id → h j = some bj → ∀ c' o' s', σ j = some (c', o', s') → c' ≠ c := fun j bj hne hj c' o' s' hc' e => hs.excl id j b bj (Ne.symm hne) hb hj hw c o s c' o' s' h1 hc' e.symm
  refine ⟨⟨?_, ?_, ?_⟩, Nat.le_refl _, fun _ _ => rfl, fun _ _ h => h, rfl, rfl, rfl, by simp, ?_, ?_⟩
  · intro i b' hb'
    rcases hl i b' hb' with ⟨rfl, rfl⟩ | ⟨hne, hb''⟩
    · refine ⟨c, o, s, _, ty, fr, h1, setRow_heap w c arr _ ty fr h2, ?_, ?_, ?_, e6⟩
      · simp; omega
      · simp; omega
      · have hnew : (b.cells.take off ++ vs ++ b.cells.drop (off + vs.length)).length = b.cells.length := by simp; omega
        simp only [hnew]
        have hmid : ((arr.toList.take (o + off) ++ vs' ++ arr.toList.drop (o + off + vs'.length)).drop o).take b.cells.length =
            (((arr.toList.drop o).take b.cells.length).take off ++ vs' ++ ((arr.toList.drop o).take b.cells.length).drop (off + vs'.length)) := by
          apply List.ext_getElem?
          intro k
          simp only [List.getElem?_take, List.getElem?_drop, List.getElem?_append, List.length_append, List.length_take, List.length_drop, Array.length_toList]
          have a1 : min (o + off) arr.size = o + off := by omega
          have a2 : min b.cells.length (arr.size - o) = b.cells.length := by omega
          have a3 : min off b.cells.length = off := by omega
          simp only [a1, a2, a3]
          by_cases k1 : k < b.cells.length
          · by_cases k2 : k < off
            · simp [k1, k2, show o + k < o + off + vs'.length by omega, show o + k < o + off by omega, show k < off + vs'.length by omega]
            · by_cases k3 : k < off + vs'.length
              · simp only [k1, if_true, show o + k < o + off + vs'.length by omega, show ¬ o + k < o + off by omega, if_false, k3, k2]
                congr 1; omega
              · simp only [k1, if_true, show ¬ o + k < o + off + vs'.length by omega, if_false, k3, show off + vs'.length + (k - (off + vs'.length)) < b.cells.length by omega]
                congr 1; omega
          · simp only [k1, if_false, show ¬ k < off + vs'.length by omega, show ¬ off + vs'.length + (k - (off + vs'.length)) < b.cells.length by omega]
        have hm2 : ((arr.toList.take (o + off) ++ vs' ++ arr.toList.drop (o + off + vs'.length)).toArray.toList.drop o).take b.cells.length =
            (((arr.toList.drop o).take b.cells.length).take off ++ vs' ++ ((arr.toList.drop o).take b.cells.length).drop (off + vs'.length)) := hmid
        rw [hm2, ← hvl]
        exact ((e5.take off).append hv).append (e5.drop (off + vs.length))
    · obtain ⟨c2, o2, s2, arr2, ty2, fr2, g1, g2, g3, g4, g5, g6⟩ := hs.blk i b' hb''
      refine ⟨c2, o2, s2, arr2, ty2, fr2, g1, ?_, g3, g4, g5, g6⟩
      rw [setRow_other w c c2 _ (hno i b' hne hb'' c2 o2 s2 g1)]; exact g2
  · intro i b' hb' hw'
    rcases hl i b' hb' with ⟨rfl, rfl⟩ | ⟨hne, hb''⟩
    · exact hs.own i b hb hw
    · exact hs.own i b' hb'' hw'
  · intro i j bi bj hne hi hj hwi
    have gi : ∃ bi', h i = some bi' ∧ bi'.wr = bi.wr := by
      rcases hl i bi hi with ⟨rfl, rfl⟩ | ⟨_, hi'⟩
      · exact ⟨b, hb, rfl⟩
      · exact ⟨bi, hi', rfl⟩
    have gj : ∃ bj', h j = some bj' := by
      rcases hl j bj hj with ⟨rfl, rfl⟩ | ⟨_, hj'⟩
      · exact ⟨b, hb⟩
      · exact ⟨bj, hj'⟩
    obtain ⟨bi', hi', hwe⟩ := gi
    obtain ⟨bj', hj'⟩ := gj
    exact hs.excl i j bi' bj' hne hi' hj' (hwe.trans hwi)
  · intro k hk hno'
    refine setRow_other w c k _ ?_
    intro e; subst e
    exact hno' ⟨id, b, o, s, hb, hw, h1⟩
  · rintro k ⟨i, b', o', s', hb', hw', hc'⟩ _
    rcases hl i b' hb' with ⟨rfl, rfl⟩ | ⟨hne, hb''⟩
    · exact ⟨i, b, o', s', hb, hw, hc'⟩
    · exact ⟨i, b', o', s', hb'', hw', hc'⟩

/-- a mark behind a block's cells -/
theorem mark_goes (hs : SimF σ B h w) (id : Nat) (b : Blk) (hb : h id = some b) (hw : b.wr = true) (c o s : Nat) (arr : Array Value) (ty : TypeId) (fr : Nat × Nat) (h1 : σ id = some (c, o, s)) (h2 : w.heap[c]? = some (.cells arr ty fr)) :
    Goes B σ h n w σ h n (w.freeze { block := c, off := arr.size } 1) := by
  obtain ⟨c', o', s', arr', ty', fr', e1, e2, e3, e4, e5, e6⟩ := hs.blk id b hb
  rw [h1] at e1; cases e1
  rw [h2] at e2; cases e2
  have hlt : c < w.heap.size := (Array.getElem?_eq_some_iff.1 h2).1
  let w1 := w.freeze { block := c, off := arr.size } 1
  have hne : ∀ i, i ≠ c → w1.heap[i]? = w.heap[i]? := fun i hi => by
    show (World.freeze w { block := c, off := arr.size } 1).heap[i]? = _
    unfold World.freeze
    rw [if_neg (by omega)]
    simp only [Array.getElem?_modify, Ne.symm hi, if_false]
  have hself : w1.heap[c]? = some (.cells arr ty (if fr.1 == fr.2 then (arr.size, arr.size + 1) else (min fr.1 arr.size, max fr.2 (arr.size + 1)))) := by
    show (World.freeze w { block := c, off := arr.size } 1).heap[c]? = _
    unfold World.freeze
    rw [if_neg (by omega)]
    simp only [Array.getElem?_modify, if_true, h2, Option.map_some]
  have hsize : w1.heap.size = w.heap.size := by
    show (World.freeze w { block := c, off := arr.size } 1).heap.size = _
    unfold World.freeze
    rw [if_neg (by omega)]
    simp
  have hos : w1.os = w.os ∧ w1.tape = w.tape ∧ w1.output = w.output := by
    show (World.freeze w { block := c, off := arr.size } 1).os = _ ∧ (World.freeze w { block := c, off := arr.size } 1).tape = _ ∧ (World.freeze w { block := c, off := arr.size } 1).output = _
    unfold World.freeze
    rw [if_neg (by omega)]
    exact ⟨rfl, rfl, rfl⟩
  have hno : ∀ j bj, j ≠ id → h j = some bj → ∀ c' o' s', σ j = some (c', o', s') → c' ≠ c := fun j bj hne hj c' o' s' hc' e => hs.excl id j b bj (Ne.symm hne) hb hj hw c o s c' o' s' h1 hc' e.symm
  refine ⟨⟨?_, hs.own, hs.excl⟩, Nat.le_refl _, fun _ _ => rfl, fun _ _ h => h, hos.1, hos.2.1, hos.2.2, Nat.le_of_eq hsize.symm, ?_, fun _ h _ => h⟩
  · intro i b' hb'
    by_cases hi : i = id
    · subst hi
      rw [hb] at hb'; cases hb'
      refine ⟨c, o, s, arr, ty, _, h1, hself, e3, e4, e5, fun _ => ?_⟩
      obtain ⟨f1, f2⟩ := e6 hw
      obtain ⟨lo, hi⟩ := fr
      simp only at f1 f2 ⊢
      by_cases he : lo = hi
      · subst he
        simp only [beq_self_eq_true, if_true]
        exact ⟨by omega, fun i hi => by simp; omega⟩
      · have hlo : s ≤ lo := by
          apply Classical.byContradiction
          intro hc
          have := f2 lo (by omega)
          simp at this
          omega
        have hbe : (lo == hi) = false := by simpa using he
        simp only [hbe, Bool.false_eq_true, if_false]
        exact ⟨by omega, fun i hi' => by simp; omega⟩
    · obtain ⟨c2, o2, s2, arr2, ty2, fr2, g1, g2, g3, g4, g5, g6⟩ := hs.blk i b' hb'
      exact ⟨c2, o2, s2, arr2, ty2, fr2, g1, by rw [hne c2 (hno i b' hi hb' c2 o2 s2 g1)]; exact g2, g3, g4, g5, g6⟩
  · intro k hk hno'
    refine hne k fun e => hno' ?_
    subst e
    exact ⟨id, b, o, s, hb, hw, h1⟩
end
end Go.Ab
