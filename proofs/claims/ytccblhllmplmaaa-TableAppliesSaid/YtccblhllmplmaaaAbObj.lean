import Derived.Test.YtccblhllmplmaaaAbChg
namespace Go.Ab
open Go
set_option linter.unusedVariables false

/-- what a number may stand for: cells; the record of a range over a function; the block of its deferred calls -/
inductive Obj where
  | cells (b : Blk)
  | loop (l : Lp)
  | dfr
def Obj.wr : Obj → Bool
  | .cells b => b.wr
  | _ => true
noncomputable def Heap.getO (H : Heap) (i : Nat) : Option Obj := match H.get i with
  | some b => some (.cells b)
  | none => (getL H.lps i).map .loop
def cellsOf (h : Nat → Option Obj) (i : Nat) : Option Blk := match h i with
  | some (.cells b) => some b
  | _ => none
theorem cellsOf_some {h : Nat → Option Obj} {i : Nat} {b : Blk} : cellsOf h i = some b ↔ h i = some (.cells b) := by
  unfold cellsOf
  split
  · rename_i b' hb; rw [hb]; simp
  · rename_i hn; constructor
    · intro h; cases h
    · intro h; exact absurd h (hn b)

def StR : LpSt → LoopState → Option Code → Prop
  | .ready, s, p => s = .ready ∧ p = none
  | .busy, s, _ => s = .busy
  | .over .ret, s, p => s = .done ∧ p = some .ret
  | .over (.exit id), s, p => s = .done ∧ p = some (.exit id)
  | .over .normal, _, _ => False

structure LR (σ : Loc) (l : Lp) (L : Loop) : Prop where
  T : VRs σ l.T L.tmps.toList
  ps : L.params.toList = l.ps
  asg : L.assign = l.asg
  body : L.body = l.body
  st : StR l.st L.state L.pending

def OR (σ : Loc) (w : World) (id : Nat) : Obj → Prop
  | .cells b => BR σ w id b
  | .loop l => ∃ c o s L, σ id = some (c, o, s) ∧ w.heap[c]? = some (.loop L) ∧ LR σ l L
  | .dfr => ∃ c o s, σ id = some (c, o, s) ∧ w.heap[c]? = some (.deferred (some []))

theorem OR.loc {σ : Loc} {w : World} {id : Nat} {b : Obj} (h : OR σ w id b) : ∃ c o s, σ id = some (c, o, s) := by
  cases b with
  | cells b => obtain ⟨c, o, s, _, _, _, h, _⟩ := h; exact ⟨c, o, s, h⟩
  | loop l => obtain ⟨c, o, s, _, h, _⟩ := h; exact ⟨c, o, s, h⟩
  | dfr => obtain ⟨c, o, s, h, _⟩ := h; exact ⟨c, o, s, h⟩
def Obj.isC : Obj → Bool
  | .cells _ => true
  | _ => false
def isCells : Option Go.Obj → Bool
  | some (.cells _ _ _) => true
  | _ => false
theorem OR.kind {σ : Loc} {w : World} {id c o s : Nat} {b : Obj} (h : OR σ w id b) (hc : σ id = some (c, o, s)) : isCells w.heap[c]? = b.isC ∧ c < w.heap.size := by
  cases b with
  | cells b => obtain ⟨c', o', s', _, _, _, h1, h2, _⟩ := h; rw [hc] at h1; cases h1; rw [h2]; exact ⟨rfl, (Array.getElem?_eq_some_iff.1 h2).1⟩
  | loop l => obtain ⟨c', o', s', _, h1, h2, _⟩ := h; rw [hc] at h1; cases h1; rw [h2]; exact ⟨rfl, (Array.getElem?_eq_some_iff.1 h2).1⟩
  | dfr => obtain ⟨c', o', s', h1, h2⟩ := h; rw [hc] at h1; cases h1; rw [h2]; exact ⟨rfl, (Array.getElem?_eq_some_iff.1 h2).1⟩

structure SimO (σ : Loc) (B : Nat) (h : Nat → Option Obj) (w : World) : Prop where
  blk : ∀ id b, h id = some b → OR σ w id b
  own : ∀ id b, h id = some b → b.wr = true → ∃ c o s, σ id = some (c, o, s) ∧ B ≤ c
  excl : ∀ i j bi bj, i ≠ j → h i = some bi → h j = some bj → bi.wr = true → ∀ c o s c' o' s', σ i = some (c, o, s) → σ j = some (c', o', s') → c ≠ c'

theorem SimO.cells {σ : Loc} {B : Nat} {h : Nat → Option Obj} {w : World} (hs : SimO σ B h w) : SimF σ B (cellsOf h) w :=
  ⟨fun id b hb => hs.blk id _ (cellsOf_some.1 hb), fun id b hb => hs.own id _ (cellsOf_some.1 hb), fun i j bi bj hne hi hj => hs.excl i j _ _ hne (cellsOf_some.1 hi) (cellsOf_some.1 hj)⟩

def OwnedO (σ : Loc) (h : Nat → Option Obj) (c : Nat) : Prop := ∃ id b o s, h id = some b ∧ b.wr = true ∧ σ id = some (c, o, s)

structure GoesO (B : Nat) (σ : Loc) (h : Nat → Option Obj) (n : Nat) (w : World) (τ : Loc) (h' : Nat → Option Obj) (n' : Nat) (w' : World) : Prop where
  sim : SimO τ B h' w'
  le : n ≤ n'
  ext : ∀ id, id < n ∨ n' ≤ id → τ id = σ id
  mono : ∀ id x, σ id = some x → τ id = some x
  os : w'.os = w.os
  tape : w'.tape = w.tape
  output : w'.output = w.output
  size : w.heap.size ≤ w'.heap.size
  keep : ∀ c, c < w.heap.size → ¬ OwnedO σ h c → w'.heap[c]? = w.heap[c]?
  owned : ∀ c, OwnedO τ h' c → c < w.heap.size → OwnedO σ h c

open Classical in
noncomputable def updO (h : Nat → Option Obj) (H H' : Heap) : Nat → Option Obj := fun id => if H'.getO id = H.getO id then h id else H'.getO id

/-- a step that changes cells alone, seen among the objects -/
theorem GoesO.lift {B : Nat} {σ τ : Loc} {h : Nat → Option Obj} {H H' : Heap} {w w' : World} (hs : SimO σ B h w) (g : Goes B σ (cellsOf h) H.next w τ (upd (cellsOf h) H H') H'.next w') (hlp : H'.lps = H.lps)
    (hdis : ∀ i, getL H.lps i ≠ none → H'.get i = H.get i) : GoesO B σ h H.next w τ (updO h H H') H'.next w' := by
  have same : ∀ i, H'.getO i = H.getO i ↔ H'.get i = H.get i := by
    intro i
    unfold Heap.getO
    rw [hlp]
    by_cases hl : getL H.lps i = none
    · rw [hl]
      cases H'.get i <;> cases H.get i <;> simp
    · rw [hdis i hl]; simp
  have keepL : ∀ (id c o s : Nat) (b : Obj), h id = some b → (∀ x, b ≠ .cells x) → σ id = some (c, o, s) → w'.heap[c]? = w.heap[c]? := by
    intro id c o s b hb hnc hc
    obtain ⟨k1, k2⟩ := (hs.blk id b hb).kind hc
    refine g.keep c k2 ?_
    rintro ⟨j, bj, oj, sj, hj, _, hcj⟩
    have := ((hs.blk j _ (cellsOf_some.1 hj)).kind hcj).1
    rw [this] at k1
    cases b with
    | cells x => exact hnc x rfl
    | loop l => cases k1
    | dfr => cases k1
  -- what stands behind it
  have beh : ∀ id b, updO h H H' id = some b → (∃ x, b = .cells x ∧ upd (cellsOf h) H H' id = some x) ∨ ((∀ x, b ≠ .cells x) ∧ h id = some b) := by
    intro id b hb
    unfold updO at hb
    split at hb
    · rename_i he
      have he := (same id).1 he
      cases b with
      | cells x => left; refine ⟨x, rfl, ?_⟩; unfold upd; rw [if_pos he]; exact cellsOf_some.2 hb
      | loop l => exact .inr ⟨by simp, hb⟩
      | dfr => exact .inr ⟨by simp, hb⟩
    · rename_i he
      have he : ¬ H'.get id = H.get id := fun e => he ((same id).2 e)
      have hl : getL H.lps id = none := Classical.byContradiction fun hn => he (hdis id hn)
      unfold Heap.getO at hb
      rw [hlp, hl] at hb
      cases hg : H'.get id with
      | none => rw [hg] at hb; cases hb
      | some x =>
        rw [hg] at hb
        cases hb
        left
        refine ⟨x, rfl, ?_⟩
        unfold upd
        rw [if_neg he, hg]
  have hor : ∀ id b, updO h H H' id = some b → OR τ w' id b := by
    intro id b hb
    rcases beh id b hb with ⟨x, rfl, hx⟩ | ⟨hn, hb⟩
    · exact g.sim.blk id x hx
    · have ho := hs.blk id b hb
      cases b with
      | cells x => exact absurd rfl (hn x)
      | loop l =>
        obtain ⟨c, o, s, L, h1, h2, h3⟩ := ho
        exact ⟨c, o, s, L, g.mono _ _ h1, by rw [keepL id c o s _ hb hn h1]; exact h2, h3.T.mono g.mono, h3.ps, h3.asg, h3.body, h3.st⟩
      | dfr =>
        obtain ⟨c, o, s, h1, h2⟩ := ho
        exact ⟨c, o, s, g.mono _ _ h1, by rw [keepL id c o s _ hb hn h1]; exact h2⟩
  refine ⟨⟨hor, ?_, ?_⟩, g.le, g.ext, g.mono, g.os, g.tape, g.output, g.size, ?_, ?_⟩
  · intro id b hb hw
    rcases beh id b hb with ⟨x, rfl, hx⟩ | ⟨hn, hb⟩
    · exact g.sim.own id x hx hw
    · obtain ⟨c, o, s, h1, h2⟩ := hs.own id b hb hw
      exact ⟨c, o, s, g.mono _ _ h1, h2⟩
  · intro i j bi bj hne hi hj hw c o s c' o' s' hc hc'
    have oi := hor i bi hi
    have oj := hor j bj hj
    have ki := (oi.kind hc).1
    have kj := (oj.kind hc').1
    rcases beh i bi hi with ⟨x, rfl, hx⟩ | ⟨hn, hb⟩
    · rcases beh j bj hj with ⟨y, rfl, hy⟩ | ⟨hn', hb'⟩
      · exact g.sim.excl i j x y hne hx hy hw c o s c' o' s' hc hc'
      · intro e
        subst e
        rw [ki] at kj
        cases bj with
        | cells y => exact hn' y rfl
        | loop l => cases kj
        | dfr => cases kj
    · rcases beh j bj hj with ⟨y, rfl, hy⟩ | ⟨hn', hb'⟩
      · intro e
        subst e
        rw [kj] at ki
        cases bi with
        | cells y => exact hn y rfl
        | loop l => cases ki
        | dfr => cases ki
      · obtain ⟨c1, o1, s1, e1⟩ := (hs.blk i bi hb).loc
        obtain ⟨c2, o2, s2, e2⟩ := (hs.blk j bj hb').loc
        have f1 := g.mono _ _ e1
        have f2 := g.mono _ _ e2
        rw [hc] at f1; rw [hc'] at f2
        cases f1; cases f2
        exact hs.excl i j bi bj hne hb hb' hw _ _ _ _ _ _ e1 e2
  · intro c hc hno
    exact g.keep c hc fun ⟨id, b, o, s, h1, h2, h3⟩ => hno ⟨id, _, o, s, cellsOf_some.1 h1, h2, h3⟩
  · rintro c ⟨id, b, o, s, h1, h2, h3⟩ hc
    rcases beh id b h1 with ⟨x, rfl, hx⟩ | ⟨hn, hb⟩
    · obtain ⟨j, y, oj, sj, k1, k2, k3⟩ := g.owned c ⟨id, x, o, s, hx, h2, h3⟩ hc
      exact ⟨j, _, oj, sj, cellsOf_some.1 k1, k2, k3⟩
    · obtain ⟨c1, o1, s1, e1⟩ := (hs.blk id b hb).loc
      have f1 := g.mono _ _ e1
      rw [h3] at f1; cases f1
      exact ⟨id, b, o, s, hb, h2, e1⟩

/-- a heap's numbers -/
structure WfO (H : Heap) : Prop where
  lt : ∀ i, H.getO i ≠ none → i < H.next
  dis : ∀ i, getL H.lps i ≠ none → H.get i = none
/-- what no step undoes, of the objects -/
structure MoO (H H' : Heap) : Prop where
  le : H.next ≤ H'.next
  fl : H'.floor = H.floor
  keep : ∀ i, i < H.floor → H'.getO i = H.getO i
  cr : ∀ i, H.getO i = none → H'.getO i ≠ none → H.next ≤ i ∧ i < H'.next
  wfo : WfO H → WfO H'
theorem getO_none {H : Heap} {i : Nat} : H.getO i = none ↔ H.get i = none ∧ getL H.lps i = none := by
  unfold Heap.getO
  cases H.get i with
  | some b => simp
  | none => cases getL H.lps i <;> simp
theorem MoO.refl (H : Heap) : MoO H H := ⟨Nat.le_refl _, rfl, fun _ _ => rfl, fun _ h h' => absurd h h', fun h => h⟩
theorem MoO.trans {H H1 H2 : Heap} (a : MoO H H1) (b : MoO H1 H2) : MoO H H2 := by
  refine ⟨Nat.le_trans a.le b.le, b.fl.trans a.fl, fun i hi => (b.keep i (by rw [a.fl]; exact hi)).trans (a.keep i hi), fun i h h2 => ?_, fun w => b.wfo (a.wfo w)⟩
  have h1 := a.le; have h3 := b.le
  by_cases h0 : H1.getO i = none
  · have := b.cr i h0 h2; omega
  · have := a.cr i h h0; omega
theorem MoO.wf {H H' : Heap} (a : MoO H H') (h : H.floor ≤ H.next) : H'.floor ≤ H'.next := by rw [a.fl]; exact Nat.le_trans h a.le
theorem Mo.dis {H H' : Heap} (m : Mo H H') (w : WfO H) : ∀ i, getL H.lps i ≠ none → H'.get i = H.get i := by
  intro i hi
  have h0 := w.dis i hi
  rw [h0]
  apply Classical.byContradiction
  intro hn
  have h1 := (m.cr i h0 hn).1
  have h2 := w.lt i (fun e => hi (getO_none.1 e).2)
  omega
theorem Mo.toO {H H' : Heap} (m : Mo H H') : MoO H H' := by
  refine ⟨m.le, m.fl, fun i hi => ?_, fun i h h' => ?_, fun w => ⟨fun i hi => ?_, fun i hi => ?_⟩⟩
  · unfold Heap.getO; rw [m.keep i hi, m.lp]
  · rw [getO_none] at h
    have h2 : H'.get i ≠ none := fun e => h' (getO_none.2 ⟨e, by rw [m.lp]; exact h.2⟩)
    exact m.cr i h.1 h2
  · by_cases h0 : H.getO i = none
    · have h0' := getO_none.1 h0
      have h2 : H'.get i ≠ none := fun e => hi (getO_none.2 ⟨e, by rw [m.lp]; exact h0'.2⟩)
      exact (m.cr i h0'.1 h2).2
    · exact Nat.lt_of_lt_of_le (w.lt i h0) m.le
  · rw [m.lp] at hi
    rw [m.dis w i hi]
    exact w.dis i hi

theorem GoesO.refl {B : Nat} {σ : Loc} {h : Nat → Option Obj} {n : Nat} {w : World} (hs : SimO σ B h w) : GoesO B σ h n w σ h n w :=
  ⟨hs, Nat.le_refl _, fun _ _ => rfl, fun _ _ h => h, rfl, rfl, rfl, Nat.le_refl _, fun _ _ _ => rfl, fun _ h _ => h⟩
theorem GoesO.trans {B : Nat} {σ τ υ : Loc} {h h1 h2 : Nat → Option Obj} {n n1 n2 : Nat} {w w1 w2 : World} (a : GoesO B σ h n w τ h1 n1 w1) (b : GoesO B τ h1 n1 w1 υ h2 n2 w2) :
    GoesO B σ h n w υ h2 n2 w2 := by
  refine ⟨b.sim, Nat.le_trans a.le b.le, fun id hid => ?_, fun id x hx => b.mono _ _ (a.mono _ _ hx), b.os.trans a.os, b.tape.trans a.tape, b.output.trans a.output, Nat.le_trans a.size b.size,
    fun c hc hno => ?_, fun c ho hc => a.owned c (b.owned c ho (Nat.lt_of_lt_of_le hc a.size)) hc⟩
  · have h1 := a.le; have h2 := b.le
    rw [b.ext id (by omega), a.ext id (by omega)]
  · rw [b.keep c (Nat.lt_of_lt_of_le hc a.size) (fun ho => hno (a.owned c ho hc)), a.keep c hc hno]
theorem OR.drawn {σ : Loc} {w : World} {id : Nat} {b : Obj} (k : Nat) (h : OR σ w id b) : OR σ { w with drawn := k } id b := by cases b <;> exact h
theorem GoesO.drew {B : Nat} {σ : Loc} {h : Nat → Option Obj} {n : Nat} {w : World} (hs : SimO σ B h w) (k : Nat) : GoesO B σ h n w σ h n { w with drawn := k } :=
  ⟨⟨fun id b hb => (hs.blk id b hb).drawn k, hs.own, hs.excl⟩, Nat.le_refl _, fun _ _ => rfl, fun _ _ h => h, rfl, rfl, rfl, Nat.le_refl _, fun _ _ _ => rfl, fun _ h _ => h⟩
theorem SimO.less {B : Nat} {σ : Loc} {h h' : Nat → Option Obj} {w : World} (hs : SimO σ B h w) (hl : ∀ id b, h' id = some b → h id = some b) : SimO σ B h' w :=
  ⟨fun id b hb => hs.blk id b (hl _ _ hb), fun id b hb => hs.own id b (hl _ _ hb), fun i j bi bj hne hi hj => hs.excl i j bi bj hne (hl _ _ hi) (hl _ _ hj)⟩
theorem GoesO.less {B : Nat} {σ τ : Loc} {h h' h'' : Nat → Option Obj} {n n' : Nat} {w w' : World} (g : GoesO B σ h n w τ h'' n' w') (hl : ∀ id b, h' id = some b → h'' id = some b) : GoesO B σ h n w τ h' n' w' :=
  ⟨g.sim.less hl, g.le, g.ext, g.mono, g.os, g.tape, g.output, g.size, g.keep, fun c ⟨id, b, o, s, hb, hw, hc⟩ => g.owned c ⟨id, b, o, s, hl _ _ hb, hw, hc⟩⟩
def SubO (H : Heap) (h : Nat → Option Obj) : Prop := ∀ id b, H.getO id = some b → h id = some b
theorem updO_refl (h : Nat → Option Obj) (H : Heap) : updO h H H = h := by funext id; simp [updO]
theorem SubO.upd {H H' : Heap} {h : Nat → Option Obj} (hs : SubO H h) : SubO H' (updO h H H') := by
  intro id b hb
  unfold updO
  split
  · rename_i e; exact hs id b (e ▸ hb)
  · exact hb
end Go.Ab
