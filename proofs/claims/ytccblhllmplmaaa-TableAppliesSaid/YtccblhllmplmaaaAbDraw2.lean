import Derived.Test.YtccblhllmplmaaaAbDraw
namespace Go.Ab
open Go

section
variable {P : Program} {me : Self}

structure Two (all : List Oper) (k j : En) : Prop where
  ix : k.p.ix < j.p.ix
  fits : FitsTo k j
  mask : bitB j.p.mask k.p.ix = true ∨ apartB all k.o j.o = true
  nx : k.H'.next ≤ j.H.next

structure One (P : Program) (me : Self) (all : List Oper) (H0 Hn : Heap) (e : En) : Prop where
  ok : EnOk P me all e
  kind : e.p.kind = kindC P e.o.op
  mo : MoO e.H e.H'
  wf : WfO e.H
  fl : e.H.floor ≤ e.H.next
  mask : MaskOk all e.p.ix e.p.mask
  at' : all[e.p.ix]? = some e.o
  edges : edgesOk e.o e.p.ix = true
  mo0 : MoO H0 e.H
  hi : e.H'.next ≤ Hn.next

theorem chain_one (hS : SelfOk P me) {all : List Oper} : ∀ {es : List En} {T T' : List Value} {H H' : Heap}, Chain T H es T' H' → H.floor ≤ H.next → WfO H → (∀ e ∈ es, EnOk P me all e) →
    (∀ e ∈ es, MoO H e.H ∧ MoO e.H e.H' ∧ WfO e.H ∧ e.H.floor ≤ e.H.next ∧ e.H'.next ≤ H'.next) ∧ es.Pairwise (fun k j => k.H'.next ≤ j.H.next)
  | [], _, _, _, _, _, _, _, _ => ⟨by simp, .nil⟩
  | e :: r, T, T', H, H', c, hf, hw, he => by
    obtain ⟨rfl, rfl, c⟩ := c
    have m := (he e (by simp)).mo hS hf
    have hr : ∀ k ∈ r, EnOk P me all k := fun k hk => he k (by simp [hk])
    have m2 := chain_mo hS c (m.wf hf) hr
    obtain ⟨i1, i2⟩ := chain_one hS c (m.wf hf) (m.wfo hw) hr
    refine ⟨fun k hk => ?_, List.pairwise_cons.2 ⟨fun j hj => (i1 j hj).1.le, i2⟩⟩
    rcases List.mem_cons.1 hk with rfl | hk
    · exact ⟨MoO.refl _, m, hw, hf, m2.le⟩
    · obtain ⟨a1, a2, a3, a4, a5⟩ := i1 k hk
      exact ⟨m.trans a1, a2, a3, a4, a5⟩

theorem plans_at {all : List Oper} {es : List En} (hm : es.map (fun e => (e.o, e.p)) = plans P all) {j : Nat} {e : En} (he : es[j]? = some e) :
    all[j]? = some e.o ∧ e.p.ix = j ∧ MaskOk all j e.p.mask ∧ e.p.kind = kindC P e.o.op ∧ (placed all)[j]? = some (e.o, j, e.p.mask) := by
  have h1 : (plans P all)[j]? = some (e.o, e.p) := by rw [← hm, List.getElem?_map, he]; rfl
  unfold plans plansOf at h1
  rw [List.getElem?_map] at h1
  cases hx : (placed all)[j]? with
  | none => rw [hx] at h1; cases h1
  | some x =>
    rw [hx] at h1
    obtain ⟨a1, a2, a3⟩ := placed_spec all j x hx
    simp only [Option.map_some, Option.some.injEq, Prod.mk.injEq] at h1
    obtain ⟨g1, g2⟩ := h1
    rw [← g1, ← g2]
    exact ⟨a1, a2, a3, rfl, by obtain ⟨x1, x2, x3⟩ := x; simp only at a2 ⊢; rw [a2]⟩

theorem draw_facts (hS : SelfOk P me) {all : List Oper} {T : List Value} {H : Heap} {out : Out} (hr : drawA P me all T H = some out) (hf : H.floor ≤ H.next) (hw : WfO H) :
    out.ex = .normal ∧ ∃ es : List En, Chain T H es out.T out.H ∧ es.length = all.length ∧ (∀ (j : Nat) (e : En), es[j]? = some e → e.p.ix = j) ∧ (∀ e ∈ es, One P me all H out.H e) ∧ es.Pairwise (Two all) ∧ MoO H out.H := by
  unfold drawA at hr
  split at hr
  case h_2 => cases hr
  case h_1 hap =>
  obtain ⟨h0, es, h1, h2, h3, h4, _⟩ := opsD_spec all _ _ _ _ _ hr
  obtain ⟨c1, c2⟩ := chain_one hS h1 hf hw h3
  have hap' := hap
  unfold apartAll at hap'
  rw [Bool.and_eq_true, allN_eq, allN_eq, List.all_eq_true, List.all_eq_true] at hap'
  obtain ⟨p1, p2⟩ := hap'
  have hlen : es.length = all.length := by
    have := congrArg List.length h2
    simp only [List.length_map, plans, plansOf, placed_length] at this
    exact this
  refine ⟨h0, es, h1, hlen, fun j e he => (plans_at h2 he).2.1, fun e he => ?_, ?_, chain_mo hS h1 hf h3⟩
  · obtain ⟨j, hj⟩ := List.mem_iff_getElem?.1 he
    obtain ⟨a1, a2, a3, a4, a5⟩ := plans_at h2 hj
    obtain ⟨b1, b2, b3, b4, b5⟩ := c1 e he
    exact ⟨h3 e he, a4, b2, b3, b4, by rw [a2]; exact a3, by rw [a2]; exact a1, by rw [a2]; exact p1 _ (List.mem_of_getElem? a5), b1, b5⟩
  · rw [List.pairwise_iff_getElem] at h4 c2 ⊢
    intro i j hi hj hij
    have ei := List.getElem?_eq_getElem hi
    have ej := List.getElem?_eq_getElem hj
    obtain ⟨a1, a2, a3, a4, a5⟩ := plans_at h2 ei
    obtain ⟨b1, b2, b3, b4, b5⟩ := plans_at h2 ej
    refine ⟨by rw [a2, b2]; exact hij, h4 i j hi hj hij, ?_, c2 i j hi hj hij⟩
    have q := p2 _ (List.mem_of_getElem? b5)
    rw [allN_eq, List.all_eq_true] at q
    have q := q _ (List.mem_of_getElem? a5)
    simp only at q
    have hlt : Nat.blt i j = true := by rw [show Nat.blt i j = Nat.ble (i + 1) j from rfl, ble_eq]; exact decide_eq_true hij
    rw [hlt] at q
    simp only [Bool.or_eq_true] at q
    rw [a2]
    exact q

/-! an operation that may come now -/
variable {all : List Oper} {S : Nat → Bool} {H0 Hn : Heap} {j : En} {pre post : List En}

theorem free_pre (hD : Down all S) (oj : One P me all H0 Hn j) (hr : ∀ e ∈ j.o.after.toList, Region.binds .any e = true → S e.on = true) {k : En} (hk : S k.p.ix = false) : bitB j.p.mask k.p.ix = false := by
  cases hb : bitB j.p.mask k.p.ix with
  | false => rfl
  | true =>
    obtain ⟨o, h1, h2⟩ := oj.mask S hD _ hb
    have h3 := oj.at'
    rw [h1] at h3
    cases h3
    rw [h2 hr] at hk; cases hk
theorem free_post (hD : Down all S) {k : En} (ok : One P me all H0 Hn k) (hk : S k.p.ix = true) (hj : S j.p.ix = false) : bitB k.p.mask j.p.ix = false := by
  cases hb : bitB k.p.mask j.p.ix with
  | false => rfl
  | true =>
    obtain ⟨o, h1, h2⟩ := ok.mask S hD _ hb
    have := h2 (fun e he hbi => hD k.p.ix o h1 hk e he hbi)
    rw [hj] at this; cases this

theorem memN_false {i : Nat} {l : List Nat} (h : memN i l = false) : i ∉ l := by
  intro hi
  unfold memN at h
  rw [allN_eq] at h
  have h : (l.all fun j => !(Nat.beq i j)) = true := by simpa using h
  rw [List.all_eq_true] at h
  have := h i hi
  simp at this
theorem dstIn_false {o : Oper} {l : List Nat} (h : dstIn o l = false) : ∀ t ∈ l, o.dst ≠ some t := by
  intro t ht hd
  unfold dstIn at h
  rw [hd] at h
  exact memN_false h ht
theorem sameDst_false {x y : Oper} (h : sameDst x y = false) : ∀ t, x.dst = some t → y.dst ≠ some t := by
  intro t h1 h2
  unfold sameDst at h
  rw [h1, h2] at h
  simp at h

theorem outside_spec {l : List Nat} {lo hi i : Nat} (h : outside l lo hi = true) (hi' : i ∈ l) : i < lo ∨ hi ≤ i := by
  unfold outside at h
  rw [allN_eq, List.all_eq_true] at h
  have := h i hi'
  simp only [Bool.or_eq_true] at this
  rcases this with h | h
  · left; rw [show Nat.blt i lo = Nat.ble (i + 1) lo from rfl, ble_eq] at h; exact of_decide_eq_true h
  · right; simpa using h
theorem apartIds_spec {l m : List Nat} {i : Nat} (h : apartIds l m = true) (h1 : i ∈ l) : i ∉ m := by
  unfold apartIds at h
  rw [allN_eq, List.all_eq_true] at h
  exact memN_false (by simpa using h i h1)

/-- what comes ahead in the text, and hasn't come yet, leaves what j looks at -/
theorem quiet_pre (hS : SelfOk P me) (hD : Down all S) (oj : One P me all H0 Hn j) (hr : ∀ e ∈ j.o.after.toList, Region.binds .any e = true → S e.on = true) (hjw : j.w = true)
    {k : En} (ok : One P me all H0 Hn k) (t : Two all k j) (hk : S k.p.ix = false) {id : Nat} (hid : (j.p.kind = 3) ∨ ((j.p.kind = 1 ∨ j.p.kind = 4) ∧ id ∈ j.rec'.ids)) : k.H'.getO id = k.H.getO id := by
  apply Classical.byContradiction
  intro h
  obtain ⟨kw, ht⟩ := touch_spec hS ok.ok ok.kind ok.fl ok.wf h
  have hb := free_pre hD oj hr hk
  have hc := t.fits kw hjw (by rcases hid with h | ⟨h | h, _⟩ <;> rw [h] <;> decide)
  rw [hb] at hc
  have hc : compat k.rec' j.rec' = true := by simpa using hc
  have kk : k.rec'.kind = k.p.kind := rfl
  have jk : j.rec'.kind = j.p.kind := rfl
  have klo : k.rec'.lo = k.H.next := rfl
  have khi : k.rec'.hi = k.H'.next := rfl
  unfold compat at hc
  rw [kk, jk, klo, khi] at hc
  rcases ht with ⟨h1, h2⟩ | ⟨h1, h2⟩ | ⟨h1, h2⟩ <;> rcases hid with g1 | ⟨g1 | g1, g2⟩ <;> rw [h1, g1] at hc <;> simp only [Bool.and_eq_true] at hc <;> first | (cases hc; done) | skip
  · rcases h2 with h2 | h2
    · exact apartIds_spec hc.1 h2 g2
    · have := outside_spec hc.2 g2; omega
  · have := outside_spec hc g2; omega
  · have := outside_spec hc g2; omega
  · rw [allN_eq, List.all_eq_true] at hc
    rw [hc _ g2] at h2; cases h2

/-- what stands behind j in the text, and has come already, leaves what j looks at -/
theorem quiet_post (hS : SelfOk P me) (hD : Down all S) (oj : One P me all H0 Hn j) (hjS : S j.p.ix = false) (hjw : j.w = true)
    {k : En} (ok : One P me all H0 Hn k) (t : Two all j k) (hk : S k.p.ix = true) {id : Nat} (hid : (j.p.kind = 3) ∨ ((j.p.kind = 1 ∨ j.p.kind = 4) ∧ id ∈ j.rec'.ids)) (hlt : id < j.H.next) : k.H'.getO id = k.H.getO id := by
  apply Classical.byContradiction
  intro h
  obtain ⟨kw, ht⟩ := touch_spec hS ok.ok ok.kind ok.fl ok.wf h
  have hb := free_post hD ok hk hjS
  have hc := t.fits hjw kw (by rcases ht with ⟨h, _⟩ | ⟨h, _⟩ | ⟨h, _⟩ <;> rw [h] <;> decide)
  rw [hb] at hc
  have hc : compat j.rec' k.rec' = true := by simpa using hc
  have kk : k.rec'.kind = k.p.kind := rfl
  have jk : j.rec'.kind = j.p.kind := rfl
  have n1 := oj.mo.le
  have n2 := t.nx
  unfold compat at hc
  rw [kk, jk] at hc
  rcases ht with ⟨h1, h2⟩ | ⟨h1, h2⟩ | ⟨h1, h2⟩ <;> rcases hid with g1 | ⟨g1 | g1, g2⟩ <;> rw [h1, g1] at hc <;> simp only at hc <;> first | (cases hc; done) | omega | skip
  · rcases h2 with h2 | h2
    · exact apartIds_spec hc g2 h2
    · omega
  · rw [allN_eq, List.all_eq_true] at hc
    rw [hc _ g2] at h2; cases h2

/-- two operations touch different things -/
theorem apart_post (hS : SelfOk P me) (hD : Down all S) (oj : One P me all H0 Hn j) (hjS : S j.p.ix = false) {k : En} (ok : One P me all H0 Hn k) (t : Two all j k) (hk : S k.p.ix = true) (id : Nat) :
    j.H'.getO id = j.H.getO id ∨ k.H'.getO id = k.H.getO id := by
  apply Classical.byContradiction
  intro hn
  obtain ⟨tj, tk⟩ := not_or.1 hn
  obtain ⟨kw, ht⟩ := touch_spec hS ok.ok ok.kind ok.fl ok.wf tk
  obtain ⟨jw, hu⟩ := touch_spec hS oj.ok oj.kind oj.fl oj.wf tj
  have hlt := Touch.lt oj.mo oj.wf tj
  have hb := free_post hD ok hk hjS
  have hc := t.fits jw kw (by rcases ht with ⟨h, _⟩ | ⟨h, _⟩ | ⟨h, _⟩ <;> rw [h] <;> decide)
  rw [hb] at hc
  have hc : compat j.rec' k.rec' = true := by simpa using hc
  have kk : k.rec'.kind = k.p.kind := rfl
  have jk : j.rec'.kind = j.p.kind := rfl
  have jlo : j.rec'.lo = j.H.next := rfl
  have jhi : j.rec'.hi = j.H'.next := rfl
  have n2 := t.nx
  unfold compat at hc
  rw [kk, jk, jlo, jhi] at hc
  rcases ht with ⟨h1, h2⟩ | ⟨h1, h2⟩ | ⟨h1, h2⟩ <;> rcases hu with ⟨g1, g2⟩ | ⟨g1, g2⟩ | ⟨g1, g2⟩ <;> rw [h1, g1] at hc <;> simp only at hc <;> first | (cases hc; done) | omega | skip
  rcases h2 with h2 | h2
  · have := outside_spec hc h2; omega
  · omega
end
end Go.Ab
