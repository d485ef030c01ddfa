import Derived.Test.YtccblhllmplmaaaAbDraw3
import Derived.RangeFuncRecord
namespace Go.Ab
open Go

section
variable {P : Program} {B : Nat} {σ : Loc} {h : Nat → Option Obj} {H H' : Heap} {w : World}

theorem getL_setL_same : ∀ (l : List (Nat × Lp)) (i : Nat) (v : Lp), getL l i ≠ none → getL (setL l i v) i = some v
  | [], _, _, h => absurd rfl h
  | x :: r, i, v, h => by
    have e1 : getL (x :: r) i = cond (Nat.beq x.1 i) (some x.2) (getL r i) := rfl
    have e2 : setL (x :: r) i v = cond (Nat.beq x.1 i) ((i, v) :: r) (x :: setL r i v) := rfl
    rw [e2]
    cases hb : Nat.beq x.1 i with
    | true =>
      show cond (Nat.beq i i) (some v) _ = some v
      rw [Nat.beq_refl]; rfl
    | false =>
      rw [e1, hb] at h
      show cond (Nat.beq x.1 i) (some x.2) (getL (setL r i v) i) = some v
      rw [hb]
      exact getL_setL_same r i v h
theorem getL_setL_other : ∀ (l : List (Nat × Lp)) (i j : Nat) (v : Lp), j ≠ i → getL (setL l i v) j = getL l j
  | [], _, _, _, _ => rfl
  | x :: r, i, j, v, h => by
    have e1 : getL (x :: r) j = cond (Nat.beq x.1 j) (some x.2) (getL r j) := rfl
    have e2 : setL (x :: r) i v = cond (Nat.beq x.1 i) ((i, v) :: r) (x :: setL r i v) := rfl
    rw [e1, e2]
    cases hb : Nat.beq x.1 i with
    | true =>
      have hxi : x.1 = i := Nat.eq_of_beq_eq_true hb
      have hij : Nat.beq i j = false := by
        cases hc : Nat.beq i j with
        | false => rfl
        | true => exact absurd (Nat.eq_of_beq_eq_true hc).symm h
      show cond (Nat.beq i j) (some v) (getL r j) = _
      rw [hxi, hij]; rfl
    | false =>
      show cond (Nat.beq x.1 j) (some x.2) (getL (setL r i v) j) = _
      rw [getL_setL_other r i j v h]
theorem getL_cons (x : Nat × Lp) (r : List (Nat × Lp)) (j : Nat) : getL (x :: r) j = if x.1 = j then some x.2 else getL r j := by
  show cond (Nat.beq x.1 j) (some x.2) (getL r j) = _
  cases hb : Nat.beq x.1 j with
  | true => rw [if_pos (Nat.eq_of_beq_eq_true hb)]; rfl
  | false => rw [if_neg (Nat.ne_of_beq_eq_false hb)]; rfl

/-- the loop's record, and where it lies -/
theorem Known.lrec (k : Known P B σ h H w) {l : Nat} {r : Lp} (hl : getL H.lps l = some r) : h l = some (.loop r) ∧ ∃ c o s L, σ l = some (c, o, s) ∧ B ≤ c ∧ w.heap[c]? = some (.loop L) ∧ LR σ r L := by
  have hg : H.get l = none := k.wf.dis l (by rw [hl]; simp)
  have hO : H.getO l = some (.loop r) := by unfold Heap.getO; rw [hg, hl]; rfl
  have hh := k.sub l _ hO
  obtain ⟨c, o, s, L, h1, h2, h3⟩ := k.sim.blk l _ hh
  obtain ⟨c', o', s', h4, h5⟩ := k.sim.own l _ hh rfl
  rw [h1] at h4; cases h4
  exact ⟨hh, c, o, s, L, h1, h5, h2, h3⟩

theorem OR.put {id c : Nat} {b : Obj} {L : Go.Obj} {o s : Nat} (hid : OR σ w id b) (hσ : σ id = some (c, o, s)) {l : Nat} (hne : c ≠ l) : OR σ (w.putObj l L) id b := by
  have e : (w.putObj l L).heap[c]? = w.heap[c]? := World.putObj_heap_other hne
  cases b with
  | cells b =>
    obtain ⟨c', o', s', arr, ty, fr, h1, h2, h3, h4, h5, h6⟩ := hid
    rw [hσ] at h1; cases h1
    exact ⟨c, o, s, arr, ty, fr, hσ, by rw [e]; exact h2, h3, h4, h5, h6⟩
  | loop r =>
    obtain ⟨c', o', s', L', h1, h2, h3⟩ := hid
    rw [hσ] at h1; cases h1
    exact ⟨c, o, s, L', hσ, by rw [e]; exact h2, h3⟩
  | dfr =>
    obtain ⟨c', o', s', h1, h2⟩ := hid
    rw [hσ] at h1; cases h1
    exact ⟨c, o, s, hσ, by rw [e]; exact h2⟩

/-- a loop's record is turned, or taken away -/
theorem turn_ok (k : Known P B σ h H w) {l : Nat} {r : Lp} (hl : getL H.lps l = some r) (hfl : H.floor ≤ l) {lps' : List (Nat × Lp)} (new : Option Lp) (h1 : getL lps' l = new) (h2 : ∀ j, j ≠ l → getL lps' j = getL H.lps j)
    {c o s : Nat} (hσ : σ l = some (c, o, s)) (O : Go.Obj) (hO : ∀ r', new = some r' → ∃ L, O = .loop L ∧ LR σ r' L) :
    Stp B σ h H w σ (fun id => if id = l then new.map .loop else h id) ⟨H.t, H.next, H.floor, lps'⟩ (w.putObj c O) := by
  have hg : H.get l = none := k.wf.dis l (by rw [hl]; simp)
  obtain ⟨hh, c', o', s', L, q1, q2, q3, q4⟩ := k.lrec hl
  rw [hσ] at q1; cases q1
  have hc : c < w.heap.size := (Array.getElem?_eq_some_iff.1 q3).1
  have getO' : ∀ id, Heap.getO ⟨H.t, H.next, H.floor, lps'⟩ id = if id = l then new.map .loop else H.getO id := by
    intro id
    show (match H.get id with | some b => some (Obj.cells b) | none => (getL lps' id).map .loop) = _
    by_cases hi : id = l
    · rw [if_pos hi, hi, hg, h1]
    · rw [if_neg hi, h2 id hi]; rfl
  have hlt : l < H.next := k.wf.lt l (by unfold Heap.getO; rw [hg, hl]; simp)
  have far : ∀ id b c' o' s', id ≠ l → h id = some b → σ id = some (c', o', s') → c' ≠ c := fun id b c' o' s' hne hb hc' e => by
    subst e; exact k.sim.excl l id _ b (Ne.symm hne) hh hb rfl _ _ _ _ _ _ hσ hc' rfl
  have sim : SimO σ B (fun id => if id = l then new.map .loop else h id) (w.putObj c O) := by
    refine ⟨fun id b hb => ?_, fun id b hb hw => ?_, fun i j bi bj hne hi hj hw => ?_⟩
    · by_cases hi : id = l
      · subst hi
        simp only [if_true] at hb
        cases new with
        | none => cases hb
        | some r' =>
          cases hb
          obtain ⟨L', rfl, hL'⟩ := hO r' rfl
          exact ⟨c, o, s, L', hσ, World.putObj_heap_same hc, hL'⟩
      · simp only [hi, if_false] at hb
        have hor := k.sim.blk id b hb
        obtain ⟨c1, o1, s1, e1⟩ := hor.loc
        exact hor.put e1 (far id b _ _ _ hi hb e1)
    · by_cases hi : id = l
      · subst hi; exact ⟨c, o, s, hσ, q2⟩
      · simp only [hi, if_false] at hb; exact k.sim.own id b hb hw
    · intro ci oi si cj oj sj hci hcj
      by_cases hil : i = l
      · subst hil
        have hjl : j ≠ i := Ne.symm hne
        simp only [hjl, if_false] at hj
        rw [hσ] at hci; cases hci
        exact Ne.symm (far j bj _ _ _ hjl hj hcj)
      · simp only [hil, if_false] at hi
        by_cases hjl : j = l
        · subst hjl
          rw [hσ] at hcj; cases hcj
          exact far i bi _ _ _ hil hi hci
        · simp only [hjl, if_false] at hj
          exact k.sim.excl i j bi bj hne hi hj hw _ _ _ _ _ _ hci hcj
  have ownd : ∀ x, OwnedO σ (fun id => if id = l then new.map .loop else h id) x → OwnedO σ h x := by
    rintro x ⟨id, b, o1, s1, hb, hw, hx⟩
    by_cases hi : id = l
    · subst hi; exact ⟨id, _, o1, s1, hh, rfl, hx⟩
    · simp only [hi, if_false] at hb; exact ⟨id, b, o1, s1, hb, hw, hx⟩
  refine ⟨⟨sim, Nat.le_refl _, fun _ _ => rfl, fun _ _ h => h, rfl, rfl, rfl, Nat.le_of_eq World.putObj_size.symm, fun x hx hno => ?_, fun x hx _ => ownd x hx⟩, fun id b hb => ?_, fun id b hb => ?_, ⟨Nat.le_refl _, rfl, fun i hi => ?_, fun i hi hi' => ?_, fun wf => ⟨fun i hi => ?_, fun i hi => ?_⟩⟩⟩
  · refine World.putObj_heap_other ?_
    rintro rfl
    exact hno ⟨l, _, o, s, hh, rfl, hσ⟩
  · rw [getO'] at hb
    by_cases hi : id = l
    · simp only [hi, if_true] at hb ⊢; exact hb
    · simp only [hi, if_false] at hb ⊢; exact k.sub id b hb
  · unfold updO at hb
    rw [getO'] at hb
    by_cases hi : id = l
    · subst hi
      simp only [if_true] at hb ⊢
      have e0 : H.getO id = some (.loop r) := by unfold Heap.getO; rw [hg, hl]; rfl
      by_cases e : new.map Obj.loop = H.getO id
      · rw [if_pos (by rw [if_pos rfl]; exact e), hh] at hb; cases hb; rw [e, e0]
      · rw [if_neg (by rw [if_pos rfl]; exact e)] at hb; exact hb
    · simp only [hi, if_false, if_true] at hb ⊢; exact hb
  · rw [getO', if_neg (by omega)]
  · rw [getO'] at hi'
    by_cases he : i = l
    · subst he
      unfold Heap.getO at hi; rw [hg, hl] at hi; cases hi
    · rw [if_neg he] at hi'; exact absurd hi hi'
  · rw [getO'] at hi
    by_cases he : i = l
    · subst he; exact hlt
    · rw [if_neg he] at hi; exact wf.lt i hi
  · show H.get i = none
    by_cases he : i = l
    · subst he; exact hg
    · refine wf.dis i ?_
      rw [← h2 i he]; exact hi

theorem mark_some {l : Nat} {st : LpSt} (hr : mark l st H = some H') : H.floor ≤ l ∧ ∃ r, getL H.lps l = some r ∧ H' = ⟨H.t, H.next, H.floor, setL H.lps l ⟨r.T, r.ps, r.asg, r.body, st⟩⟩ := by
  unfold mark at hr
  split at hr
  · rename_i hb
    split at hr
    · rename_i r hl
      cases hr
      rw [ble_eq] at hb
      exact ⟨of_decide_eq_true hb, r, hl, rfl⟩
    · cases hr
  · cases hr
theorem setL_other_get {l : Nat} {r v : Lp} (hl : getL H.lps l = some r) : getL (setL H.lps l v) l = some v := getL_setL_same _ _ _ (by rw [hl]; simp)

/-- a record's state is turned -/
theorem mark_ok (k : Known P B σ h H w) {l : Nat} {st : LpSt} (hr : mark l st H = some H') {c o s : Nat} (hσ : σ l = some (c, o, s)) :
    ∃ r L, getL H.lps l = some r ∧ w.heap[c]? = some (.loop L) ∧ LR σ r L ∧ ∀ st' p', StR st st' p' → ∃ h', Stp B σ h H w σ h' H' (w.putObj c (.loop { L with state := st', pending := p' })) := by
  obtain ⟨hfl, r, hl, rfl⟩ := mark_some hr
  obtain ⟨hh, c', o', s', L, q1, q2, q3, q4⟩ := k.lrec hl
  rw [hσ] at q1; cases q1
  refine ⟨r, L, hl, q3, q4, fun st' p' hst => ⟨_, turn_ok k hl hfl (some ⟨r.T, r.ps, r.asg, r.body, st⟩) (setL_other_get hl) (fun j hj => getL_setL_other _ _ _ _ hj) hσ _ ?_⟩⟩
  rintro r' h'
  cases h'
  exact ⟨_, rfl, q4.T, q4.ps, q4.asg, q4.body, hst⟩
theorem mark_mo {l : Nat} {st : LpSt} (hr : mark l st H = some H') : MoO H H' := by
  obtain ⟨hfl, r, hl, rfl⟩ := mark_some hr
  have getO' : ∀ id, Heap.getO ⟨H.t, H.next, H.floor, setL H.lps l ⟨r.T, r.ps, r.asg, r.body, st⟩⟩ id = none ↔ H.getO id = none := by
    intro id
    rw [getO_none, getO_none]
    show H.get id = none ∧ getL (setL H.lps l _) id = none ↔ _
    by_cases hi : id = l
    · subst hi; rw [setL_other_get hl, hl]; simp
    · rw [getL_setL_other _ _ _ _ hi]
  refine ⟨Nat.le_refl _, rfl, fun i hi => ?_, fun i hi hi' => absurd ((getO' i).2 hi) hi', fun wf => ⟨fun i hi => wf.lt i (fun e => hi ((getO' i).2 e)), fun i hi => ?_⟩⟩
  · show (match H.get i with | some b => some (Obj.cells b) | none => (getL (setL H.lps l _) i).map .loop) = _
    rw [getL_setL_other _ _ _ _ (by omega)]; rfl
  · show H.get i = none
    refine wf.dis i ?_
    by_cases he : i = l
    · subst he; rw [hl]; simp
    · rw [← getL_setL_other H.lps l i ⟨r.T, r.ps, r.asg, r.body, st⟩ he]; exact hi
end
end Go.Ab
