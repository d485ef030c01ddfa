import Derived.Test.YtccblhllmplmaaaAbTrace
import Derived.Test.YtccblhllmplmaaaAbEq
namespace Go.Ab
open Go

section
variable {P : Program} {me : Self}

/-- what an entry says -/
structure EnOk (P : Program) (me : Self) (all : List Oper) (e : En) : Prop where
  w : e.w = (wantedC all e.o.guard).f e.T
  yes : e.w = true → stepD P me e.o e.p e.T e.H = some (e.v, e.H')
  no : e.w = false → e.v = undef ∧ e.H' = e.H

/-- two entries that may change places, or not -/
def FitsTo (k j : En) : Prop := k.w = true → j.w = true → j.p.kind ≠ 0 → bitB j.p.mask k.p.ix = true ∨ compat k.rec' j.rec' = true

theorem fits_spec {p : Plan} {j : Rec} {rs : List Rec} (hf : fitsAll p j rs = true) (hj : j.kind ≠ 0) : ∀ k ∈ rs, bitB p.mask k.ix = true ∨ compat k j = true := by
  intro k hk
  unfold fitsAll at hf
  split at hf
  · rename_i h0; exact absurd h0 hj
  · rw [allN_eq, List.all_eq_true] at hf
    simpa using hf k hk

theorem opsD_spec (all : List Oper) : ∀ (l : List (Oper × Plan)) (T : List Value) (H : Heap) (rs : List Rec) (out : Out), opsD P me all l T H rs = some out →
    out.ex = .normal ∧ ∃ es : List En, Chain T H es out.T out.H ∧ es.map (fun e => (e.o, e.p)) = l ∧ (∀ e ∈ es, EnOk P me all e) ∧ es.Pairwise FitsTo ∧
      (∀ e ∈ es, e.w = true → e.p.kind ≠ 0 → ∀ k ∈ rs, bitB e.p.mask k.ix = true ∨ compat k e.rec' = true)
  | [], T, H, rs, out, hr => by
    cases hr
    exact ⟨rfl, [], ⟨rfl, rfl⟩, rfl, by simp, .nil, by simp⟩
  | (o, p) :: l, T, H, rs, out, hr => by
    have hr' : opF2 P me o p ((wantedC all o.guard).f T) T H rs (opsD P me all l) = some out := hr
    unfold opF2 at hr'
    split at hr'
    · rename_i hw
      split at hr'
      · rename_i v H' hs
        split at hr'
        · rename_i hf
          obtain ⟨h0, es, h1, h2, h3, h4, h5⟩ := opsD_spec all l _ _ _ out hr'
          refine ⟨h0, ⟨o, p, T, H, v, H', true⟩ :: es, ⟨rfl, rfl, h1⟩, by simp [h2], ?_, ?_, ?_⟩
          · intro e he
            rcases List.mem_cons.1 he with rfl | he
            · exact ⟨hw.symm, fun _ => hs, fun h => by cases h⟩
            · exact h3 e he
          · refine List.pairwise_cons.2 ⟨fun j hj _ hwj hkj => ?_, h4⟩
            have hmem : mkRec o p T H H' ∈ mkRec o p T H H' :: rs := List.mem_cons_self ..
            exact h5 j hj hwj hkj _ hmem
          · intro e he hwe hke k hk
            rcases List.mem_cons.1 he with rfl | he
            · exact fits_spec hf hke k hk
            · exact h5 e he hwe hke k (List.mem_cons_of_mem _ hk)
        · cases hr'
      · cases hr'
    · rename_i hw
      obtain ⟨h0, es, h1, h2, h3, h4, h5⟩ := opsD_spec all l _ _ _ out hr'
      refine ⟨h0, ⟨o, p, T, H, undef, H, false⟩ :: es, ⟨rfl, rfl, h1⟩, by simp [h2], ?_, ?_, ?_⟩
      · intro e he
        rcases List.mem_cons.1 he with rfl | he
        · exact ⟨hw.symm, fun h => (by cases h), fun _ => ⟨rfl, rfl⟩⟩
        · exact h3 e he
      · refine List.pairwise_cons.2 ⟨fun j hj h => (by cases h), h4⟩
      · intro e he hwe hke k hk
        rcases List.mem_cons.1 he with rfl | he
        · cases hwe
        · exact h5 e he hwe hke k hk

theorem stepD_mo (hS : SelfOk P me) {o : Oper} {p : Plan} {T : List Value} {H H' : Heap} {v : Value} (hf : H.floor ≤ H.next) (hr : stepD P me o p T H = some (v, H')) : MoO H H' := stepC_mo hS hf hr

theorem EnOk.mo (hS : SelfOk P me) {all : List Oper} {e : En} (he : EnOk P me all e) (hf : e.H.floor ≤ e.H.next) : MoO e.H e.H' := by
  cases hw : e.w with
  | true => exact stepD_mo hS hf (he.yes hw)
  | false => rw [(he.no hw).2]; exact MoO.refl _

/-- the heaps of a chain -/
theorem chain_mo (hS : SelfOk P me) {all : List Oper} : ∀ {es : List En} {T T' : List Value} {H H' : Heap}, Chain T H es T' H' → H.floor ≤ H.next → (∀ e ∈ es, EnOk P me all e) → MoO H H'
  | [], _, _, _, _, c, _, _ => by obtain ⟨_, rfl⟩ := c; exact MoO.refl _
  | e :: r, T, T', H, H', c, hf, he => by
    obtain ⟨rfl, rfl, c⟩ := c
    have m := (he e (by simp)).mo hS hf
    exact m.trans (chain_mo hS c (m.wf hf) fun k hk => he k (by simp [hk]))

/-- where an operation touches the heap -/
def Touch (e : En) (id : Nat) : Prop := e.H'.getO id ≠ e.H.getO id

theorem Touch.lt {e : En} {id : Nat} (m : MoO e.H e.H') (hw : WfO e.H) (h : Touch e id) : id < e.H'.next := by
  by_cases h0 : e.H.getO id = none
  · exact (m.cr id h0 (fun h1 => h (h1.trans h0.symm))).2
  · exact Nat.lt_of_lt_of_le (hw.lt id h0) m.le

theorem touch_spec (hS : SelfOk P me) {all : List Oper} {e : En} (he : EnOk P me all e) (hk : e.p.kind = kindC P e.o.op) (hf : e.H.floor ≤ e.H.next) (hwf : WfO e.H) {id : Nat} (h : Touch e id) :
    e.w = true ∧ ((e.p.kind = 4 ∧ (id ∈ e.rec'.ids ∨ (e.H.next ≤ id ∧ id < e.H'.next))) ∨ (e.p.kind = 2 ∧ e.H.next ≤ id ∧ id < e.H'.next) ∨ (e.p.kind = 3 ∧ e.rec'.same id = false)) := by
  cases hw : e.w with
  | false => exact absurd (by rw [(he.no hw).2]) h
  | true =>
  refine ⟨rfl, ?_⟩
  have hy := he.yes hw
  have quiet : e.p.kind = 3 → e.rec'.same id = false := by
    intro hk3
    have : e.rec'.same id = sameB e.H e.H' id := by
      show (mkRec e.o e.p e.T e.H e.H').same id = _
      simp only [mkRec, hk3]
    rw [this]
    cases hs : sameB e.H e.H' id with
    | false => rfl
    | true =>
      obtain ⟨b, h1, h2⟩ := sameB_sound hs
      exact absurd (by unfold Heap.getO; rw [h1, h2]) h
  -- the step itself
  have plain : ∀ (H0 H1 : Heap), H0.floor ≤ H0.next → (opC P e.o.op).f e.T H0 = some (e.v, H1) → H0.getO = e.H.getO → H0.next = e.H.next → H1.getO = e.H'.getO → H1.next = e.H'.next →
      ((e.p.kind = 4 ∧ (id ∈ e.rec'.ids ∨ (e.H.next ≤ id ∧ id < e.H'.next))) ∨ (e.p.kind = 2 ∧ e.H.next ≤ id ∧ id < e.H'.next) ∨ (e.p.kind = 3 ∧ e.rec'.same id = false)) := by
    intro H0 H1 hfl ho g0 n0 g1 n1
    have m := opC_mo hfl ho
    have hget : H1.get id ≠ H0.get id := by
      intro he
      refine h ?_
      rw [← g1, ← g0]
      unfold Heap.getO
      rw [he, m.lp]
    rcases opC_cg ho with (⟨k, c⟩ | ⟨k, c⟩) | c
    · left
      have hk4 : e.p.kind = 4 := hk.trans k
      refine ⟨hk4, ?_⟩
      have := c id hget
      rw [n0, n1] at this
      rcases this with h' | h'
      · left
        show id ∈ (mkRec e.o e.p e.T e.H e.H').ids
        simp only [mkRec, hk4]
        exact h'
      · exact .inr h'
    · right; left
      refine ⟨hk.trans k, ?_⟩
      have := c id hget
      rw [n0, n1] at this
      rcases this with h' | h'
      · cases h'
      · exact h'
    · exact absurd (by rw [← g1, ← g0, c]) h
  have any : ∀ (H0 H1 : Heap), H0.floor ≤ H0.next → (stepC P e.o.op).f me e.T H0 = some (e.v, H1) → H0.getO = e.H.getO → H0.next = e.H.next → H1.getO = e.H'.getO → H1.next = e.H'.next →
      ((e.p.kind = 4 ∧ (id ∈ e.rec'.ids ∨ (e.H.next ≤ id ∧ id < e.H'.next))) ∨ (e.p.kind = 2 ∧ e.H.next ≤ id ∧ id < e.H'.next) ∨ (e.p.kind = 3 ∧ e.rec'.same id = false)) := by
    intro H0 H1 hfl ho g0 n0 g1 n1
    unfold stepC at ho
    split at ho
    case h_2 => cases ho
    case h_1 =>
    unfold stepC0 at ho
    split at ho
    · rename_i c hc
      split at ho
      · exact plain H0 H1 hfl ho g0 n0 g1 n1
      · rename_i hcc
        (have hk3 : e.p.kind = 3 := by rw [hk]; simp only [kindC, hc, hcc]); exact .inr (.inr ⟨hk3, quiet hk3⟩)
      · rename_i hcc
        (have hk3 : e.p.kind = 3 := by rw [hk]; simp only [kindC, hc, hcc]); exact .inr (.inr ⟨hk3, quiet hk3⟩)
    · exact plain H0 H1 hfl ho g0 n0 g1 n1
  exact any _ _ hf hy rfl rfl rfl rfl
end
end Go.Ab
