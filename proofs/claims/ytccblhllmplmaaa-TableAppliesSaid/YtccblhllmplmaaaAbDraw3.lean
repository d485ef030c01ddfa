import Derived.Test.YtccblhllmplmaaaAbDraw2
namespace Go.Ab
open Go

section
variable {P : Program} {me : Self} {B : Nat}

/-- a step inside a wider range of numbers -/
theorem GoesO.inside {σ τ υ : Loc} {h h1 h2 : Nat → Option Obj} {n N n1 n2 : Nat} {w w1 w2 : World} (a : GoesO B σ h n w τ h1 N w1) (b : GoesO B τ h1 n1 w1 υ h2 n2 w2) (hl : n ≤ n1) (hh : n2 ≤ N) :
    GoesO B σ h n w υ h2 N w2 := by
  refine ⟨b.sim, a.le, fun id hid => ?_, fun id x hx => b.mono _ _ (a.mono _ _ hx), b.os.trans a.os, b.tape.trans a.tape, b.output.trans a.output, Nat.le_trans a.size b.size,
    fun c hc hno => ?_, fun c ho hc => a.owned c (b.owned c ho (Nat.lt_of_lt_of_le hc a.size)) hc⟩
  · have := b.le
    rw [b.ext id (by omega), a.ext id (by omega)]
  · rw [b.keep c (Nat.lt_of_lt_of_le hc a.size) (fun ho => hno (a.owned c ho hc)), a.keep c hc hno]

theorem GoesO.widen {σ τ : Loc} {h h1 : Nat → Option Obj} {n n1 N : Nat} {w w1 : World} (a : GoesO B σ h n w τ h1 n1 w1) (hh : n1 ≤ N) : GoesO B σ h n w τ h1 N w1 :=
  ⟨a.sim, Nat.le_trans a.le hh, fun id hid => a.ext id (by omega), a.mono, a.os, a.tape, a.output, a.size, a.keep, a.owned⟩

/-- all is done -/
theorem TS_all {S : Nat → Bool} : ∀ {es : List En} {T T' : List Value} {H H' : Heap}, Chain T H es T' H' → (∀ e ∈ es, S e.p.ix = true) → TS S T es = T'
  | [], _, _, _, _, c, _ => c.1
  | e :: r, T, T', H, H', c, hs => by
    obtain ⟨rfl, rfl, c⟩ := c
    show TS S (if S e.p.ix then _ else _) r = T'
    rw [if_pos (hs e (by simp))]
    exact TS_all c fun k hk => hs k (by simp [hk])
theorem HS_all {S : Nat → Bool} (id : Nat) : ∀ {es : List En} {T T' : List Value} {H H' : Heap} {h : Nat → Option Obj}, Chain T H es T' H' → (∀ e ∈ es, S e.p.ix = true) →
    ((∃ e ∈ es, Touch e id) ∧ HSf S h es id = H'.getO id) ∨ (HSf S h es id = h id ∧ H'.getO id = H.getO id ∧ ∀ e ∈ es, ¬ Touch e id)
  | [], _, _, _, _, _, c, _ => by obtain ⟨_, rfl⟩ := c; exact .inr ⟨rfl, rfl, by simp⟩
  | e :: r, T, T', H, H', h, c, hs => by
    obtain ⟨rfl, rfl, c⟩ := c
    have hh : HSf S h (e :: r) id = HSf S (updO h e.H e.H') r id := by
      show HSf S (if S e.p.ix then _ else _) r id = _
      rw [if_pos (hs e (by simp))]
    rw [hh]
    rcases HS_all id (h := updO h e.H e.H') c fun k hk => hs k (by simp [hk]) with ⟨⟨k, hk, ht⟩, h1⟩ | ⟨h1, h2, h3⟩
    · exact .inl ⟨⟨k, by simp [hk], ht⟩, h1⟩
    · by_cases ht : Touch e id
      · refine .inl ⟨⟨e, by simp, ht⟩, ?_⟩
        rw [h1, h2]
        unfold updO
        rw [if_neg ht]
      · refine .inr ⟨?_, ?_, ?_⟩
        · rw [h1]; unfold updO; rw [if_pos (Classical.not_not.1 ht)]
        · rw [h2]; exact Classical.not_not.1 ht
        · intro k hk
          rcases List.mem_cons.1 hk with rfl | hk
          · exact ht
          · exact h3 k hk

theorem draw_end {all : List Oper} {S : Nat → Bool} {σ0 σ : Loc} {h0 : Nat → Option Obj} {H0 Hn : Heap} {w0 w : World} {es : List En} {T T' : List Value} (k0 : Known P B σ0 h0 H0 w0) (hfr : Fresh σ0 H0.next Hn.next)
    (c : Chain T H0 es T' Hn) (ho : ∀ e ∈ es, One P me all H0 Hn e) (m : MoO H0 Hn) (hs : ∀ e ∈ es, S e.p.ix = true) (g : GoesO B σ0 h0 H0.next w0 σ (HSf S h0 es) Hn.next w) : Stp B σ0 h0 H0 w0 σ (HSf S h0 es) Hn w := by
  refine ⟨g, fun id b hb => ?_, fun id b hb => ?_, m⟩
  · rcases HS_all id (h := h0) c hs with ⟨_, h1⟩ | ⟨h1, h2, _⟩
    · rw [h1]; exact hb
    · rw [h1]; exact k0.sub id b (h2 ▸ hb)
  · rcases HS_all id (h := h0) c hs with ⟨⟨e, he, ht⟩, h1⟩ | ⟨h1, h2, _⟩
    · rw [h1]
      by_cases e2 : Hn.getO id = H0.getO id
      · unfold updO at hb
        rw [if_pos e2] at hb
        cases h3 : H0.getO id with
        | some b0 => rw [e2, h3]; have := k0.sub id b0 h3; rw [this] at hb; exact hb
        | none =>
          exfalso
          have o := ho e he
          have hin : H0.next ≤ id ∧ id < Hn.next := by
            by_cases h4 : e.H.getO id = none
            · have h5 := o.mo.cr id h4 (fun h5 => ht (h5.trans h4.symm))
              have := o.mo0.le; have := o.hi; omega
            · have h5 := o.mo0.cr id h3 h4
              have := o.mo.le; have := o.hi; omega
          have hσ := hfr id hin.1 hin.2
          obtain ⟨cc, oo, ss, g1⟩ := (k0.sim.blk id b hb).loc
          rw [hσ] at g1; cases g1
      · unfold updO at hb
        rw [if_neg e2] at hb
        exact hb
    · rw [h1]
      unfold updO at hb
      rw [if_pos h2] at hb
      exact hb

theorem evC_tmp_congr {T T' : List Value} {x : Operand} (h : ∀ t, x = .tmp t → nth T t = nth T' t) : (evC x).g T = (evC x).g T' := by
  cases x with
  | tmp t => exact h t rfl
  | _ => rfl

theorem wanted_congr {all : List Oper} {o : Oper} {T T' : List Value} (h : ∀ t ∈ looks all o, nth T t = nth T' t) : (wantedC all o.guard).f T = (wantedC all o.guard).f T' := by
  unfold wantedC
  cases hg : o.guard with
  | none => rfl
  | some jw =>
    obtain ⟨j, want⟩ := jw
    simp only
    cases hd : (all[j]?).bind (·.dst) with
    | none => rfl
    | some d =>
      simp only
      rw [h d (by
        unfold looks
        rw [appN_eq, hg]
        simp only [atN_eq, hd]
        exact List.mem_append_right _ (by simp))]

theorem ready_all {ops : Array Oper} {listed : Array Bool} (hsz : listed.size = ops.size) (he : ∀ (i : Nat) (o : Oper), ops[i]? = some o → edgesOk o i = true) (hr : Region.ready .any ops listed = []) :
    ∀ i, i < ops.size → listed.getD i false = true := by
  intro i
  induction i using Nat.strongRecOn with
  | ind i ih =>
    intro hi
    apply Classical.byContradiction
    intro hn
    have ho : ops[i]? = some ops[i] := Array.getElem?_eq_getElem hi
    have hmem : i ∈ Region.ready .any ops listed := by
      rw [mem_ready]
      refine ⟨?_, ops[i], ho, fun e hea hb => ?_⟩
      · have : i < listed.size := by omega
        simp only [Array.getD_eq_getD_getElem?, Array.getElem?_eq_getElem this, Option.getD_some] at hn ⊢
        simpa using hn
      · have := he i _ ho
        unfold edgesOk at this
        rw [allN_eq, List.all_eq_true] at this
        have := this e (by simpa using hea)
        rw [hb] at this
        simp only at this
        have hlt : e.on < i := by rw [show Nat.blt e.on i = Nat.ble (e.on + 1) i from rfl, ble_eq] at this; exact of_decide_eq_true this
        exact ih e.on hlt (by omega)
    rw [hr] at hmem
    cases hmem

theorem draw_ok (hP : Good P) (hS : SelfOk P me) (ops : Array Oper) (r : Option Nat) {σ0 : Loc} {h0 : Nat → Option Obj} {T0 : List Value} {H0 : Heap} {w0 : World} {a0 : Act} {out : Out} {Q : Exit → Act → World → Prop} (k0 : Known P B σ0 h0 H0 w0)
    (hfr : Fresh σ0 H0.next out.H.next) {es : List En} (hc : Chain T0 H0 es out.T out.H) (hlen : es.length = ops.size) (hix : ∀ (j : Nat) (e : En), es[j]? = some e → e.p.ix = j) (hone : ∀ e ∈ es, One P me ops.toList H0 out.H e) (htwo : es.Pairwise (Two ops.toList)) (hmo : MoO H0 out.H)
    (hq : ∀ τ h' a' w', VRs τ out.T a'.tmps.toList → a'.defers = a0.defers → Stp B σ0 h0 H0 w0 τ h' out.H w' → Q .normal a' w') :
    ∀ (fuel : Nat) (listed : Array Bool) (a : Act) (w : World) (σ : Loc), listed.size = ops.size → listed.toList.count false ≤ fuel → Down ops.toList (fun i => listed.getD i false) → VRs σ (TS (fun i => listed.getD i false) T0 es) a.tmps.toList → a.defers = a0.defers →
      GoesO B σ0 h0 H0.next w0 σ (HSf (fun i => listed.getD i false) h0 es) out.H.next w → (∀ e ∈ es, listed.getD e.p.ix false = false → Fresh σ e.H.next e.H'.next) → wpAnyIn (Wd r) 0 P .any ops Q fuel listed a w := by
  have hedge : ∀ (i : Nat) (o : Oper), ops[i]? = some o → edgesOk o i = true := by
    intro i o ho
    have hi : i < es.length := by rw [hlen]; exact (Array.getElem?_eq_some_iff.1 ho).1
    have ei := List.getElem?_eq_getElem hi
    have on := hone _ (List.mem_of_getElem? ei)
    have h1 := on.at'
    have h2 := on.edges
    rw [hix i _ ei] at h1 h2
    have : ops.toList[i]? = some o := by simpa using ho
    rw [this] at h1
    cases h1
    exact h2
  have fin : ∀ (listed : Array Bool) (a : Act) (w : World) (σ : Loc), listed.size = ops.size → VRs σ (TS (fun i => listed.getD i false) T0 es) a.tmps.toList → a.defers = a0.defers →
      GoesO B σ0 h0 H0.next w0 σ (HSf (fun i => listed.getD i false) h0 es) out.H.next w → Region.ready .any ops listed = [] → Q .normal a w := by
    intro listed a w σ hsz hT hd hg hr
    have hall := ready_all hsz hedge hr
    have hs : ∀ e ∈ es, (fun i => listed.getD i false) e.p.ix = true := by
      intro e he
      obtain ⟨i, hi⟩ := List.mem_iff_getElem?.1 he
      have h1 : i < es.length := (List.getElem?_eq_some_iff.1 hi).1
      show listed.getD e.p.ix false = true
      rw [hix i e hi]
      exact hall i (by omega)
    rw [TS_all hc hs] at hT
    exact hq σ _ a w hT hd (draw_end k0 hfr hc hone hmo hs hg)
  intro fuel
  induction fuel with
  | zero =>
    intro listed a w σ hsz hcnt hD hT hd hg hF
    have hr : Region.ready .any ops listed = [] := by
      cases hr : Region.ready .any ops listed with
      | nil => rfl
      | cons i _ =>
        exfalso
        have hi : i ∈ Region.ready .any ops listed := by rw [hr]; simp
        obtain ⟨h1, _⟩ := mem_ready.1 hi
        have : false ∈ listed.toList := by
          by_cases hlt : i < listed.size
          · simp only [Array.getD_eq_getD_getElem?, Array.getElem?_eq_getElem hlt, Option.getD_some] at h1
            rw [← h1]; simp
          · simp [Array.getD_eq_getD_getElem?, Array.getElem?_eq_none (Nat.le_of_not_lt hlt)] at h1
        have := List.count_pos_iff.2 this
        omega
    exact ⟨hr, fin listed a w σ hsz hT hd hg hr⟩
  | succ fuel ih =>
    intro listed a w σ hsz hcnt hD hT hd hg hF
    refine ⟨fin listed a w σ hsz hT hd hg, fun i hi => ?_⟩
    obtain ⟨hun, o, ho, hed⟩ := mem_ready.1 hi
    have hils : i < ops.size := (Array.getElem?_eq_some_iff.1 ho).1
    have hil : i < listed.size := by omega
    have hie : i < es.length := by omega
    have hunD : listed.getD i false = false := by
      simp only [Array.getD_eq_getD_getElem?, Array.getElem?_eq_getElem hil, Option.getD_some] at hun ⊢
      exact hun
    obtain ⟨j, hj⟩ : ∃ j, es[i]? = some j := ⟨_, List.getElem?_eq_getElem hie⟩
    have hjm := List.mem_of_getElem? hj
    have hji := hix i j hj
    have oj := hone j hjm
    have hoj : j.o = o := by
      have h1 := oj.at'
      rw [hji] at h1
      have : ops.toList[i]? = some o := by simpa using ho
      rw [this] at h1
      exact (Option.some.inj h1).symm
    subst hoj
    -- the set that is done
    let S : Nat → Bool := fun i => listed.getD i false
    let listed' := listed.setIfInBounds i true
    let S' : Nat → Bool := fun i => listed'.getD i false
    have hSj : S j.p.ix = false := by show listed.getD j.p.ix false = false; rw [hji]; exact hunD
    have hS'j : S' j.p.ix = true := by
      show (listed.setIfInBounds i true).getD j.p.ix false = true
      rw [hji]
      simp [Array.getD_eq_getD_getElem?, hil]
    have hSS : ∀ m, m ≠ i → S' m = S m := fun m hm => getD_set_ne false (Ne.symm hm)
    obtain ⟨pre, post, hes⟩ := List.append_of_mem hjm
    have hpw := htwo
    rw [hes] at hpw
    obtain ⟨_, hp2, hp3⟩ := List.pairwise_append.1 hpw
    have tpost : ∀ k ∈ post, Two ops.toList j k := (List.pairwise_cons.1 hp2).1
    have tpre : ∀ k ∈ pre, Two ops.toList k j := fun k hk => hp3 k hk j (by simp)
    have onepre : ∀ k ∈ pre, One P me ops.toList H0 out.H k := fun k hk => hone k (by rw [hes]; simp [hk])
    have onepost : ∀ k ∈ post, One P me ops.toList H0 out.H k := fun k hk => hone k (by rw [hes]; simp [hk])
    have hedS : ∀ e ∈ j.o.after.toList, Region.binds .any e = true → S e.on = true := fun e he hb => hed e (by simpa using he) hb
    -- what it looks at, among the temporaries
    have apre : ∀ k ∈ pre, S k.p.ix = false → apartB ops.toList k.o j.o = true := fun k hk hks => by
      have := (tpre k hk).mask
      rw [free_pre hD oj hedS hks] at this
      simpa using this
    have apost : ∀ k ∈ post, S k.p.ix = true → apartB ops.toList j.o k.o = true := fun k hk hks => by
      have := (tpost k hk).mask
      rw [free_post hD (onepost k hk) hks hSj] at this
      simpa using this
    have hnth : ∀ t ∈ looks ops.toList j.o, nth (TS S T0 es) t = nth j.T t := by
      intro t ht
      rw [hes]
      have hc' := hc
      rw [hes] at hc'
      refine TS_agree hc' hSj (fun k hk hks => ?_) (fun k hk hks => ?_)
      · have := apre k hk hks
        unfold apartB at this
        simp only [Bool.and_eq_true, Bool.not_eq_true'] at this
        exact dstIn_false this.1 t ht
      · have := apost k hk hks
        unfold apartB at this
        simp only [Bool.and_eq_true, Bool.not_eq_true'] at this
        exact dstIn_false this.2.1 t ht
    have hev : ∀ x ∈ j.o.op.operands.toList, (evC x).g (TS S T0 es) = (evC x).g j.T := fun x hx => evC_tmp_congr fun t e => hnth t (by
      subst e
      unfold looks
      rw [appN_eq]
      exact List.mem_append_left _ (List.mem_filterMap.2 ⟨.tmp t, hx, rfl⟩))
    have hwj : (wantedC ops.toList j.o.guard).f (TS S T0 es) = j.w := by rw [wanted_congr hnth, oj.ok.w]
    have hw := wanted_eq hT (ops := ops) j.o
    have hw : Region.wanted j.o (yielded ops a.tmps) = j.w := hw.trans hwj
    -- the state behind it
    have hD' : Down ops.toList S' := by
      intro m om hom hm e he hb
      by_cases hmi : m = i
      · subst hmi
        have : ops.toList[m]? = some j.o := by simpa using ho
        rw [this] at hom
        cases hom
        by_cases hei : e.on = m
        · rw [hei, ← hji]; exact hS'j
        · rw [hSS _ hei]; exact hedS e he hb
      · rw [hSS _ hmi] at hm
        have := hD m om hom hm e he hb
        by_cases hei : e.on = i
        · rw [hei, ← hji]; exact hS'j
        · rw [hSS _ hei]; exact this
    have hsame : ∀ k ∈ pre ++ post, S' k.p.ix = S k.p.ix := by
      intro k hk
      refine hSS _ ?_
      rcases List.mem_append.1 hk with hk | hk
      · have := (tpre k hk).ix; omega
      · have := (tpost k hk).ix; omega
    have hTS : TS S' T0 es = putT (TS S T0 es) j.o.dst j.v := by
      rw [hes]
      refine TS_insert hSj hS'j hsame fun k hk hks x hx => ?_
      have := apost k hk hks
      unfold apartB at this
      simp only [Bool.and_eq_true, Bool.not_eq_true'] at this
      exact sameDst_false this.2.2 x hx
    have hHS : HSf S' h0 es = updO (HSf S h0 es) j.H j.H' := by
      rw [hes]
      exact HS_insert hSj hS'j hsame fun k hk hks id => apart_post hS hD oj hSj (onepost k hk) (tpost k hk) hks id
    have hcnt' : listed'.toList.count false ≤ fuel := by
      have h1 : listed'.toList = listed.toList.set i true := by simp [listed']
      have h2 : listed.toList[i]'(by simpa using hil) = false := by
        have : listed[i] = false := by
          simp only [Array.getD_eq_getD_getElem?, Array.getElem?_eq_getElem hil, Option.getD_some] at hunD
          exact hunD
        simpa using this
      rw [h1, List.count_set (by simpa using hil), h2]
      have h3 : 0 < listed.toList.count false := List.count_pos_iff.2 (by rw [← h2]; exact List.getElem_mem _)
      simp
      simp at hcnt
      omega
    have hF' : ∀ (τ : Loc), (∀ id, id < j.H.next ∨ j.H'.next ≤ id → τ id = σ id) → ∀ e ∈ es, S' e.p.ix = false → Fresh τ e.H.next e.H'.next := by
      intro τ hτ e he hes' x hx1 hx2
      have hne : e.p.ix ≠ i := fun h => by rw [h, ← hji, hS'j] at hes'; cases hes'
      rw [hSS _ hne] at hes'
      rw [hes] at he
      have hrange : x < j.H.next ∨ j.H'.next ≤ x := by
        rcases List.mem_append.1 he with h | h
        · have := (tpre e h).nx; omega
        · rcases List.mem_cons.1 h with rfl | h
          · exact absurd hji hne
          · have := (tpost e h).nx; omega
      rw [hτ x hrange]
      exact hF e (by rw [hes]; exact he) hes' x hx1 hx2
    unfold wpOpIn
    rw [ho]
    simp only
    cases hjw : j.w with
    | false =>
      rw [hjw] at hw
      rw [if_neg (by rw [hw]; simp)]
      refine ⟨fun _ _ => trivial, ?_⟩
      obtain ⟨hv, hH⟩ := oj.ok.no hjw
      obtain ⟨p1, p2⟩ := put_ok hT j.o.dst (VR.undef (σ := σ))
      refine ih listed' _ w σ (by simp [listed', hsz]) hcnt' hD' ?_ (p2.trans hd) ?_ (hF' σ fun _ _ => rfl)
      · show VRs σ (TS S' T0 es) _
        rw [hTS, hv]; exact p1
      · show GoesO B σ0 h0 H0.next w0 σ (HSf S' h0 es) out.H.next w
        rw [hHS, hH, updO_refl]; exact hg
    | true =>
      rw [hjw] at hw
      rw [if_pos hw]
      -- what it looks at, in the heap
      have hag : ∀ id, ((j.p.kind = 3) ∨ ((j.p.kind = 1 ∨ j.p.kind = 4) ∧ id ∈ j.rec'.ids)) → ∀ b, j.H.getO id = some b → HSf S h0 es id = some b := by
        intro id hid b hb
        have hlt : id < j.H.next := oj.wf.lt id (by rw [hb]; simp)
        rw [hes]
        have hc' := hc
        rw [hes] at hc'
        refine HS_agree hc' hSj (fun k hk hks => ?_) (fun k hk hks => ?_) (k0.sub id) b hb
        · exact quiet_pre hS hD oj hedS hjw (onepre k hk) (tpre k hk) hks hid
        · exact quiet_post hS hD oj hSj hjw (onepost k hk) (tpost k hk) hks hid hlt
      have hB : B ≤ w.heap.size := Nat.le_trans k0.hB hg.size
      have hG : GlobOk P σ := fun g hgl => by obtain ⟨z, hz⟩ := k0.glob g hgl; exact ⟨z, hg.mono _ _ hz⟩
      have hfrj : Fresh σ j.H.next j.H'.next := hF j hjm (by rw [hji]; exact hunD)
      have main : ∀ (G G' : Heap), (stepC P j.o.op).f me j.T G = some (j.v, G') → G.getO = j.H.getO → G.next = j.H.next → G'.getO = j.H'.getO → G'.next = j.H'.next → G.floor ≤ G.next → WfO G →
          Oper.wpIn (Wd r) 0 P j.o a w (wpAnyIn (Wd r) 0 P .any ops Q fuel listed') Q := by
        intro G G' hst g1 n1 g2 n2 hfl hwG
        have hst' : (stepC P j.o.op).f me (TS S T0 es) G = some (j.v, G') := by rw [stepC_congr hev]; exact hst
        refine stepC_gen hP hS j.o (h := HSf S h0 es) (H := G) (H' := G') (T := TS S T0 es) hg.sim hB hG ?_ hwG hfl ?_ (by rw [n1, n2]; exact hfrj) hT hst' ?_
        · intro hk x hx id hid b hb
          have hk' : j.p.kind = 1 ∨ j.p.kind = 4 := by rw [oj.kind]; exact hk
          refine hag id (.inr ⟨hk', ?_⟩) b (by rw [← g1]; exact hb)
          rw [hev x hx] at hid
          show id ∈ (mkRec j.o j.p j.T j.H j.H').ids
          have hmem : id ∈ idsOf (evs j.o.op.operands.toList j.T) := mem_ids (by rw [evs_map]; exact List.mem_map.2 ⟨x, hx, rfl⟩) id hid
          rcases hk' with h | h <;> simp only [mkRec, h] <;> exact hmem
        · intro hk
          refine ⟨hg.sim, fun id b hb => ?_, hB, hG, hwG, hfl⟩
          exact hag id (.inl (by rw [oj.kind]; exact hk)) b (by rw [← g1]; exact hb)
        · intro v' τ w' hv g
          rw [n1, n2] at g
          have hu : updO (HSf S h0 es) G G' = updO (HSf S h0 es) j.H j.H' := by
            funext id; unfold updO; rw [g1, g2]
          rw [hu] at g
          have g' := hg.inside g oj.mo0.le oj.hi
          obtain ⟨p1, p2⟩ := put_ok (hT.mono g.mono) j.o.dst hv
          refine ih listed' _ w' τ (by simp [listed', hsz]) hcnt' hD' ?_ (p2.trans hd) ?_ (hF' τ g.ext)
          · show VRs τ (TS S' T0 es) _
            rw [hTS]; exact p1
          · show GoesO B σ0 h0 H0.next w0 τ (HSf S' h0 es) out.H.next w'
            rw [hHS]; exact g'
      exact main _ _ (oj.ok.yes hjw) rfl rfl rfl rfl oj.fl oj.wf

/-- a region that draws its order -/
theorem drawA_ok (hP : Good P) (hS : SelfOk P me) (ops : Array Oper) (rid : Nat) (r : Option Nat) {σ : Loc} {h : Nat → Option Obj} {T : List Value} {H : Heap} {w : World} {a : Act} {out : Out} (k : Known P B σ h H w) (hfr : Fresh σ H.next out.H.next) (hT : VRs σ T a.tmps.toList)
    (hr : drawA P me ops.toList T H = some out) : (Code.region rid ops true).wpIn (Wd r) 0 P (PostQ B σ h H w a.defers out) a w := by
  obtain ⟨hx, es, hc, hlen, hix, hone, htwo, hmo⟩ := draw_facts hS hr k.fl k.wf
  refine wpIn_region_any hP.mixed ?_
  have hS0 : ∀ i, (Array.replicate ops.size false).getD i false = false := fun i => by
    rw [Array.getD_eq_getD_getElem?, Array.getElem?_replicate]; split <;> rfl
  have none_ts : ∀ (l : List En) (T : List Value), TS (fun i => (Array.replicate ops.size false).getD i false) T l = T := by
    intro l
    induction l with
    | nil => intro T; rfl
    | cons e l ih => intro T; show TS _ (if (Array.replicate ops.size false).getD e.p.ix false = true then _ else T) l = T; rw [hS0]; exact ih T
  have none_hs : ∀ (l : List En) (g : Nat → Option Obj), HSf (fun i => (Array.replicate ops.size false).getD i false) g l = g := by
    intro l
    induction l with
    | nil => intro T; rfl
    | cons e l ih => intro g; show HSf _ (if (Array.replicate ops.size false).getD e.p.ix false = true then _ else g) l = g; rw [hS0]; exact ih g
  have g0 : GoesO B σ h H.next w σ h out.H.next { w with drawn := w.drawn + 1 } := (GoesO.drew k.sim _).widen hmo.le
  refine draw_ok hP hS ops r (a0 := a) k hfr hc (by simpa using hlen) hix hone htwo hmo ?_ ops.size _ a _ σ (by simp) ?_ ?_ ?_ rfl ?_ ?_
  · intro τ h' a' w' q1 q2 q3
    exact ⟨by rw [hx]; rfl, [], τ, h', q2, ⟨by simp, .nil⟩, q1, q3⟩
  · have := List.count_le_length (a := false) (l := (Array.replicate ops.size false).toList)
    simp at this ⊢
  · intro i o _ hi
    have hi : (Array.replicate ops.size false).getD i false = true := hi
    rw [hS0] at hi; cases hi
  · rw [none_ts]; exact hT
  · rw [none_hs]; exact g0
  · intro e he _ i h1 h2
    have o := hone e he
    exact hfr i (Nat.le_trans o.mo0.le h1) (Nat.lt_of_lt_of_le h2 o.hi)
end
end Go.Ab
