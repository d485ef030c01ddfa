import Derived.Test.YtkfbmfhfbfgojabAbDraw3
namespace Go.Ab
open Go

section
variable {P : Program} {me : Self} {B : Nat}

theorem repl1_eq : ∀ (n : Nat) (v : Value), repl n [v] = List.replicate n v
  | 0, _ => rfl
  | n + 1, v => by
    show appN [v] (repl n [v]) = _
    rw [appN_eq, repl1_eq n v, List.replicate_succ]; rfl

theorem roundsIn_mono {F : Fence} {c : Code} {Q Q' : Exit → Act → World → Prop} (hq : ∀ e a w, Q e a w → Q' e a w) : ∀ (n : Nat) (a : Act) (w : World), Code.roundsIn F 0 P c Q n a w → Code.roundsIn F 0 P c Q' n a w
  | 0, _, _, h => h
  | n + 1, a, w, h => wpIn_mono h fun e a' w' he => by
    cases e <;> first | exact roundsIn_mono hq n a' w' he | exact hq _ _ _ he

theorem ev_bool {σ : Loc} {T : List Value} {a : Act} (hT : VRs σ T a.tmps.toList) {c : Operand} {t : Bool} (h : (evC c).g T = .bool t) : a.eval c = .bool t := by
  cases c with
  | tmp i =>
    have h1 : nth T i = .bool t := h
    rw [nth_eq] at h1
    have h2 := hT.getD i
    rw [h1] at h2
    show a.tmps.getD i undef = .bool t
    have h3 : a.tmps.toList.getD i undef = a.tmps.getD i undef := by simp [Array.getD_eq_getD_getElem?, List.getD_eq_getElem?_getD]
    rw [← h3]
    generalize a.tmps.toList.getD i undef = x at h2
    cases h2
    rfl
  | const v => exact h
  | global g => cases h
  | func f => cases h

theorem thenA_some {o : Option Out} {k : List Value → Heap → Option Out} {out : Out} (h : thenA o k = some out) : ∃ o1, o = some o1 ∧ ((o1.ex = .normal ∧ k o1.T o1.H = some out) ∨ (o1.ex ≠ .normal ∧ out = o1)) := by
  unfold thenA at h
  cases o with
  | none => cases h
  | some o1 =>
    refine ⟨o1, rfl, ?_⟩
    obtain ⟨e, T, H⟩ := o1
    cases e with
    | normal => exact .inl ⟨rfl, h⟩
    | exit id => right; cases h; exact ⟨by simp, rfl⟩
    | ret => right; cases h; exact ⟨by simp, rfl⟩
theorem blockA_some {id : Nat} {o : Option Out} {out : Out} (h : blockA id o = some out) : ∃ o1, o = some o1 ∧ out.T = o1.T ∧ out.H = o1.H ∧ ((o1.ex = .exit id ∧ out.ex = .normal) ∨ (o1.ex ≠ .exit id ∧ out.ex = o1.ex)) := by
  unfold blockA at h
  cases o with
  | none => cases h
  | some o1 =>
    refine ⟨o1, rfl, ?_⟩
    obtain ⟨e, T, H⟩ := o1
    cases e with
    | normal => cases h; exact ⟨rfl, rfl, .inr ⟨by simp, rfl⟩⟩
    | ret => cases h; exact ⟨rfl, rfl, .inr ⟨by simp, rfl⟩⟩
    | exit id' =>
      simp only at h
      split at h
      · rename_i he; cases h; exact ⟨rfl, rfl, .inl ⟨by rw [Nat.eq_of_beq_eq_true he], rfl⟩⟩
      · rename_i he; cases h; exact ⟨rfl, rfl, .inr ⟨by intro e; cases e; simp at he, rfl⟩⟩

theorem codeC_mo (hS : SelfOk P me) : ∀ (c : Code) (T : List Value) (H : Heap) (out : Out), H.floor ≤ H.next → (codeC P c).f me T H = some out → Mo H out.H := by
  intro c
  induction c with
  | skip => intro T H out _ h; cases h; exact Mo.refl _
  | region id ops d =>
    intro T H out hf h
    cases d with
    | true =>
      have h : drawA P me ops.toList T H = some out := h
      have h' := h
      unfold drawA at h'
      split at h'
      · obtain ⟨_, es, h1, _, h3, _, _⟩ := opsD_spec ops.toList _ _ _ _ _ h'
        exact chain_mo hS h1 hf h3
      · cases h'
    | false => exact (opsA_mo hS ops.toList _ _ _ _ hf h).1
  | seq x y ix iy =>
    intro T H out hf h
    have h : thenA ((codeC P x).f me T H) (fun T H => (codeC P y).f me T H) = some out := h
    obtain ⟨o1, h1, h2⟩ := thenA_some h
    have m := ix _ _ _ hf h1
    rcases h2 with ⟨_, h2⟩ | ⟨_, rfl⟩
    · exact m.trans (iy _ _ _ (m.wf hf) h2)
    · exact m
  | cond c x y ix iy =>
    intro T H out hf h
    have h : ifA me ((evC c).g T) (codeC P x) (codeC P y) T H = some out := h
    unfold ifA at h
    split at h
    · split at h
      · exact ix _ _ _ hf h
      · exact iy _ _ _ hf h
    · cases h
  | block id x ix =>
    intro T H out hf h
    have h : blockA id ((codeC P x).f me T H) = some out := h
    obtain ⟨o1, h1, _, h3, _⟩ := blockA_some h
    rw [h3]; exact ix _ _ _ hf h1
  | loop x _ => intro T H out hf h; exact hS.mo (.loop x T H) out h hf
  | exit id => intro T H out _ h; cases h; exact Mo.refl _
  | label l => intro T H out _ h; cases h; exact Mo.refl _
  | ret => intro T H out _ h; cases h; exact Mo.refl _
  | _ => intros; rename_i h; cases h

theorem PostQ.trans {σ τ : Loc} {h h1 : Nat → Option Blk} {H H1 : Heap} {w w1 : World} {ds ds' : List Deferred} {out : Out} (k : Known P B σ h H w) (hfr : Fresh σ H.next H1.next) (s : Stp B σ h H w τ h1 H1 w1) (hd : ds' = ds) :
    ∀ e a' w', PostQ B τ h1 H1 w1 ds' out e a' w' → PostQ B σ h H w ds out e a' w' := by
  rintro e a' w' ⟨q1, q2, υ, h2, q3, q4⟩
  exact ⟨q1, q2.trans hd, υ, h2, q3, s.trans k hfr q4⟩

theorem codeC_ok (hP : Good P) (hS : SelfOk P me) : ∀ (c : Code) (T : List Value) (H : Heap) (out : Out), (codeC P c).f me T H = some out →
    ∀ (σ : Loc) (h : Nat → Option Blk) (w : World) (a : Act) (r : Option Nat), Known P B σ h H w → Fresh σ H.next out.H.next → VRs σ T a.tmps.toList → c.wpIn (Wd r) 0 P (PostQ B σ h H w a.defers out) a w := by
  intro c
  induction c with
  | skip => intro T H out hr σ h w a r k _ hT; cases hr; exact wpIn_skip ⟨rfl, rfl, σ, h, hT, Stp.refl k⟩
  | region id ops d =>
    intro T H out hr σ h w a r k hfr hT
    cases d with
    | true => exact drawA_ok hP hS ops id r k hfr hT hr
    | false =>
      refine wpIn_region ?_
      have hm := opsA_mo hS ops.toList _ _ _ _ k.fl hr
      rw [List.range_eq_range', ← Array.length_toList]
      refine opsA_ok hP hS ops r ops.toList 0 (by simp) σ h T H w a out k hfr hT hr ?_
      intro τ h' a' w' q1 q2 q3
      exact ⟨by rw [hm.2]; rfl, q2, τ, h', q1, q3⟩
  | seq x y ix iy =>
    intro T H out hr σ h w a r k hfr hT
    have hr : thenA ((codeC P x).f me T H) (fun T H => (codeC P y).f me T H) = some out := hr
    obtain ⟨o1, h1, h2⟩ := thenA_some hr
    have m1 := codeC_mo hS x _ _ _ k.fl h1
    refine wpIn_seq ?_
    rcases h2 with ⟨hx, h2⟩ | ⟨hx, rfl⟩
    · have m2 := codeC_mo hS y _ _ _ (m1.wf k.fl) h2
      refine wpIn_mono (ix _ _ _ h1 σ h w a r k (hfr.left m2.le) hT) ?_
      rintro e a' w' ⟨q1, q2, τ, h', q3, q4⟩
      rw [hx] at q1
      subst q1
      show y.wpIn (Wd r) 0 P (PostQ B σ h H w a.defers out) a' w'
      exact wpIn_mono (iy _ _ _ h2 τ h' w' a' r (k.next q4) (hfr.right q4.goes) q3) (PostQ.trans k (hfr.left m2.le) q4 q2)
    · refine wpIn_mono (ix _ _ _ h1 σ h w a r k hfr hT) ?_
      rintro e a' w' q
      have q1 := q.1
      cases he : out.ex with
      | normal => exact absurd he hx
      | exit id => rw [he] at q1; subst q1; exact q
      | ret => rw [he] at q1; subst q1; exact q
  | cond c x y ix iy =>
    intro T H out hr σ h w a r k hfr hT
    have hr : ifA me ((evC c).g T) (codeC P x) (codeC P y) T H = some out := hr
    unfold ifA at hr
    split at hr
    · rename_i t hv
      refine wpIn_cond (ev_bool hT hv) ?_
      cases t with
      | true => exact ix _ _ _ hr σ h w a r k hfr hT
      | false => exact iy _ _ _ hr σ h w a r k hfr hT
    · cases hr
  | block id x ix =>
    intro T H out hr σ h w a r k hfr hT
    have hr : blockA id ((codeC P x).f me T H) = some out := hr
    obtain ⟨o1, h1, hT1, hH1, h2⟩ := blockA_some hr
    refine wpIn_block ?_
    rw [hH1] at hfr
    refine wpIn_mono (ix _ _ _ h1 σ h w a r k hfr hT) ?_
    rintro e a' w' ⟨q1, q2, τ, h', q3, q4⟩
    have fin : ∀ e, e = exOf out.ex → PostQ B σ h H w a.defers out e a' w' := fun e he => ⟨he, q2, τ, h', by rw [hT1]; exact q3, by rw [hH1]; exact q4⟩
    rcases h2 with ⟨g1, g2⟩ | ⟨g1, g2⟩
    · rw [g1] at q1
      subst q1
      show (if id = id then _ else _)
      rw [if_pos rfl]
      exact fin _ (by rw [g2]; rfl)
    · cases he : o1.ex with
      | normal => rw [he] at q1; subst q1; exact fin _ (by rw [g2, he])
      | ret => rw [he] at q1; subst q1; exact fin _ (by rw [g2, he])
      | exit i =>
        rw [he] at q1; subst q1
        show (if i = id then _ else _)
        rw [if_neg (fun e => g1 (by rw [he, e]))]
        exact fin _ (by rw [g2, he]; rfl)
  | loop x _ =>
    intro T H out hr σ h w a r k hfr hT
    obtain ⟨n, hn⟩ := hS.loop
    exact wpIn_loop_rounds n (hn x T H out hr B σ h w a r k hfr hT)
  | exit id => intro T H out hr σ h w a r k _ hT; cases hr; exact wpIn_exit ⟨rfl, rfl, σ, h, hT, Stp.refl k⟩
  | label l => intro T H out hr σ h w a r k _ hT; cases hr; exact wpIn_label ⟨rfl, rfl, σ, h, hT, Stp.refl k⟩
  | ret => intro T H out hr σ h w a r k _ hT; cases hr; exact wpIn_ret ⟨rfl, rfl, σ, h, hT, Stp.refl k⟩
  | _ => intros; rename_i hr _ _ _ _ _ _ _ _; cases hr

/-! what a function hands back -/
theorem loadC_ptr {t : TypeId} {a v : Value} {H H' : Heap} (hr : (loadC P t).f a H = some (v, H')) : ∃ id off, a = .pointer (some ⟨id, off, none⟩) := by
  unfold loadC at hr
  split at hr
  · simp only [loadAgg] at hr
    split at hr
    · split at hr
      · split at hr
        · exact ⟨_, _, rfl⟩
        · cases hr
      · cases hr
    · cases hr
  · simp only [loadOne] at hr
    split at hr
    · split at hr
      · split at hr
        · exact ⟨_, _, rfl⟩
        · cases hr
      · cases hr
    · cases hr
  · cases hr

def resVar (tmps : Array Value) : ResultVar → Sem Value
  | .tmp t => pure (tmps.getD t undef)
  | .cell a t => do loadVar t (← asAddr (tmps.getD a undef))

section
variable {σ : Loc} {h : Nat → Option Blk} {H : Heap} {w : World} {T : List Value} {tmps : Array Value}
theorem resultOne_ok (k : Known P B σ h H w) (hT : VRs σ T tmps.toList) {r : ResultVar} {v : Value} (hr : resultOne P T H r = some v) : ∃ v', (resVar tmps r).run P w = .ok v' w ∧ VR σ v v' := by
  have hget : ∀ i, VR σ (nth T i) (tmps.getD i undef) := fun i => by
    have h2 := hT.getD i
    have h3 : tmps.toList.getD i undef = tmps.getD i undef := by simp [Array.getD_eq_getD_getElem?, List.getD_eq_getElem?_getD]
    rw [nth_eq, ← h3]; exact h2
  cases r with
  | tmp t => cases hr; exact ⟨_, rfl, hget t⟩
  | cell a t =>
    unfold resultOne at hr
    simp only at hr
    split at hr
    · rename_i u H1 hl
      cases hr
      obtain ⟨id, off, he⟩ := loadC_ptr hl
      obtain ⟨_, v', h1, h2⟩ := load_ok k.sim (fun id _ b hb => k.sub id b hb) (hget a) hl
      refine ⟨v', ?_, h2⟩
      have hg := hget a
      rw [he] at hg
      obtain ⟨_, c, o, s, hp, _⟩ := hg.ptr_inv
      rw [hp] at h1
      simp only [Instr.loadAt, Instr.sureAddr, Sem.run_bind, Sem.run_pure, Result.andThen_ok] at h1
      simp only [resVar, hp, asAddr, Sem.run_bind, Sem.run_pure, Result.andThen_ok]
      exact h1
    · cases hr
theorem resultsL_ok (k : Known P B σ h H w) (hT : VRs σ T tmps.toList) : ∀ (rs : List ResultVar) (vs : List Value), resultsL P T H rs = some vs → ∃ vs', (rs.mapM (resVar tmps)).run P w = .ok vs' w ∧ VRs σ vs vs'
  | [], vs, hr => by cases hr; exact ⟨[], rfl, .nil⟩
  | r :: rs, vs, hr => by
    unfold resultsL at hr
    split at hr
    · rename_i v h1
      split at hr
      · rename_i us h2
        cases hr
        obtain ⟨v', g1, g2⟩ := resultOne_ok k hT h1
        obtain ⟨us', g3, g4⟩ := resultsL_ok k hT rs us h2
        exact ⟨v' :: us', by simp only [List.mapM_cons, Sem.run_bind, g1, Result.andThen_ok, g3, Sem.run_pure], g2.cons g4⟩
      · cases hr
    · cases hr
theorem results_eq (fn : Func) (tmps : Array Value) : results fn tmps = (do let vs ← fn.results.mapM (resVar tmps); pure (if h : vs.size = 1 then vs[0] else .tuple vs)) := by
  unfold results
  congr 1
theorem results_ok (k : Known P B σ h H w) {fn : Func} (hT : VRs σ T tmps.toList) {v : Value} (hr : resultsA P fn.results.toList T H = some v) : ∃ v', (results fn tmps).run P w = .ok v' w ∧ VR σ v v' := by
  rw [results_eq, Array.mapM_eq_mapM_toList]
  unfold resultsA at hr
  split at hr
  · rename_i r he
    obtain ⟨v', g1, g2⟩ := resultOne_ok k hT hr
    refine ⟨v', ?_, g2⟩
    rw [he]
    simp only [List.mapM_cons, List.mapM_nil, Sem.run_bind, Sem.run_map, g1, Result.andThen_ok, Sem.run_pure]
    rfl
  · rename_i hne
    split at hr
    · rename_i vs hl
      cases hr
      obtain ⟨vs', g1, g2⟩ := resultsL_ok k hT _ _ hl
      refine ⟨.tuple vs'.toArray, ?_, .tuple _ _ (by simpa using g2) .nil⟩
      simp only [Sem.run_bind, Sem.run_map, g1, Result.andThen_ok, Sem.run_pure]
      have : ¬ vs'.toArray.size = 1 := by
        intro h1
        have h2 := g2.length
        have h3 : ∀ (rs : List ResultVar) (vs : List Value), resultsL P T H rs = some vs → vs.length = rs.length := by
          intro rs
          induction rs with
          | nil => intro vs h; cases h; rfl
          | cons r rs ih =>
            intro vs h
            unfold resultsL at h
            split at h
            · split at h
              · rename_i hx; cases h; simp [ih _ hx]
              · cases h
            · cases h
        have h4 := h3 _ _ hl
        have h5 : fn.results.toList.length = 1 := by simp at h1; omega
        obtain ⟨r, hr⟩ := List.length_eq_one_iff.1 h5
        exact hne r hr
      rw [dif_neg this]
    · cases hr
end

theorem fnC_some {f : FuncId} {args : List Value} {H : Heap} {out : Out} (hr : (fnC P f).f me args H = some out) :
    ∃ fn c o1 v, P.funcs[f]? = some fn ∧ fn.body = some c ∧ (codeC P c).f me (args ++ List.replicate (fn.ntmps - args.length) undef) H = some o1 ∧ (∀ id, o1.ex ≠ .exit id) ∧ resultsA P fn.results.toList o1.T o1.H = some v ∧ out = ⟨.ret, [v], o1.H⟩ := by
  unfold fnC at hr
  split at hr
  · rename_i fn hf
    split at hr
    · rename_i c hb
      simp only at hr
      unfold endA at hr
      split at hr
      · rename_i e T1 H1 hc
        rw [appN_eq, repl1_eq, lenN_eq] at hc
        have hf' : P.funcs[f]? = some fn := by rw [← hf]; simp
        cases e with
        | exit id => cases hr
        | normal =>
          simp only at hr
          split at hr
          · rename_i v hv; cases hr; exact ⟨fn, c, _, v, hf', hb, hc, by simp, hv, rfl⟩
          · cases hr
        | ret =>
          simp only at hr
          split at hr
          · rename_i v hv; cases hr; exact ⟨fn, c, _, v, hf', hb, hc, by simp, hv, rfl⟩
          · cases hr
      · cases hr
    · cases hr
  · cases hr

theorem fnC_ok (hP : Good P) (hS : SelfOk P me) {f : FuncId} {args : List Value} {H H' : Heap} {ex : Ex} {v : Value} (hr : (fnC P f).f me args H = some ⟨ex, [v], H'⟩) {σ : Loc} {h : Nat → Option Blk} {w : World} {args' : Array Value} (k : Known P B σ h H w) (hfr : Fresh σ H.next H'.next) (hv : VRs σ args args'.toList) :
    (∃ fn c, P.funcs[f]? = some fn ∧ fn.body = some c) ∧ CallsIn (Wd none) 0 P f args' w (fun e w' => ∃ v' τ h', e = .returned v' ∧ VR τ v v' ∧ Stp B σ h H w τ h' H' w') := by
  obtain ⟨fn, c, o1, v1, hf, hb, hc, hx, hres, ho⟩ := fnC_some hr
  cases ho
  refine ⟨⟨fn, c, hf, hb⟩, callsIn_of_wp hf hb trivial ?_⟩
  have hlen : args.length = args'.size := by have := hv.length; simpa using this
  have hT : VRs σ (args ++ List.replicate (fn.ntmps - args.length) undef) (args' ++ Array.replicate (fn.ntmps - args'.size) undef).toList := by
    rw [Array.toList_append, Array.toList_replicate, hlen]
    refine hv.append ?_
    generalize fn.ntmps - args'.size = n
    induction n with
    | zero => exact .nil
    | succ n ih => exact VR.undef.cons ih
  refine wpIn_mono (codeC_ok hP hS c _ _ _ hc σ h w _ none k hfr hT) ?_
  rintro e a' w' ⟨q1, q2, τ, h', q3, q4⟩
  have hfin : a'.defers = [] ∧ ∃ v', (results fn a'.tmps).run P w' = .ok v' w' ∧ ∃ v'' τ h', Ending.returned v' = .returned v'' ∧ VR τ v v'' ∧ Stp B σ h H w τ h' o1.H w' := by
    obtain ⟨v', g1, g2⟩ := results_ok (k.next q4) q3 hres
    exact ⟨q2, v', g1, v', τ, h', rfl, g2, q4⟩
  cases he : o1.ex with
  | exit id => exact absurd he (hx id)
  | normal => rw [he] at q1; subst q1; exact hfin
  | ret => rw [he] at q1; subst q1; exact hfin

theorem step_ok (hP : Good P) (hS : SelfOk P me) : SelfOk P (step P me) := by
  refine ⟨?_, ?_, ?_⟩
  · intro t out hr hf
    cases t with
    | loop c T H =>
      have hr : thenA ((codeC P c).f me T H) (fun T H => me (.loop c T H)) = some out := hr
      obtain ⟨o1, h1, h2⟩ := thenA_some hr
      have m := codeC_mo hS c _ _ _ hf h1
      rcases h2 with ⟨_, h2⟩ | ⟨_, rfl⟩
      · exact m.trans (hS.mo _ _ h2 (m.wf hf))
      · exact m
    | call f args H =>
      have hr : (fnC P f).f me args H = some out := hr
      obtain ⟨fn, c, o1, v1, hf', hb, hc, hx, hres, rfl⟩ := fnC_some hr
      exact codeC_mo hS c _ H o1 hf hc
  · intro f args H ex v H' hr B σ h w args' k hfr hv
    exact fnC_ok hP hS hr k hfr hv
  · obtain ⟨n, hn⟩ := hS.loop
    refine ⟨n + 1, ?_⟩
    intro c T H out hr B σ h w a r k hfr hT
    have hr : thenA ((codeC P c).f me T H) (fun T H => me (.loop c T H)) = some out := hr
    obtain ⟨o1, h1, h2⟩ := thenA_some hr
    have m1 := codeC_mo hS c _ _ _ k.fl h1
    show c.wpIn (Wd r) 0 P _ a w
    rcases h2 with ⟨hx, h2⟩ | ⟨hx, rfl⟩
    · have m2 : Mo o1.H out.H := hS.mo _ _ h2 (m1.wf k.fl)
      refine wpIn_mono (codeC_ok hP hS c _ _ _ h1 σ h w a r k (hfr.left m2.le) hT) ?_
      rintro e a' w' ⟨q1, q2, τ, h', q3, q4⟩
      rw [hx] at q1
      subst q1
      show Code.roundsIn (Wd r) 0 P c (PostQ B σ h H w a.defers out) n a' w'
      exact roundsIn_mono (PostQ.trans k (hfr.left m2.le) q4 q2) n a' w' (hn c o1.T o1.H out h2 B τ h' w' a' r (k.next q4) (hfr.right q4.goes) q3)
    · refine wpIn_mono (codeC_ok hP hS c _ _ _ h1 σ h w a r k hfr hT) ?_
      rintro e a' w' q
      have q1 := q.1
      cases he : out.ex with
      | normal => exact absurd he hx
      | exit id => rw [he] at q1; subst q1; exact q
      | ret => rw [he] at q1; subst q1; exact q

theorem run_ok (hP : Good P) : ∀ n, SelfOk P (run P n)
  | 0 => ⟨fun _ _ h => (by cases h), fun _ _ _ _ _ _ h => (by cases h), 0, fun _ _ _ _ h => (by cases h)⟩
  | n + 1 => step_ok hP (run_ok hP n)
end
end Go.Ab
