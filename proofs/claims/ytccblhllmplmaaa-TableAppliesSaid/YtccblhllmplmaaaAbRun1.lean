import Derived.Test.YtccblhllmplmaaaAbLoop
namespace Go.Ab
open Go
set_option linter.unusedVariables false

section
variable {P : Program} {me : Self} {B : Nat}

theorem repl1_eq : ∀ (n : Nat) (v : Value), repl n [v] = List.replicate n v
  | 0, _ => rfl
  | n + 1, v => by
    show appN [v] (repl n [v]) = _
    rw [appN_eq, repl1_eq n v, List.replicate_succ]; rfl

theorem roundsIn_mono {F : Fence} {c : Code} {Q Q' : Exit → Act → World → Prop} (hq : ∀ e a w, Q e a w → Q' e a w) : ∀ (n : Nat) (a : Act) (w : World), Code.roundsIn F 0 P c Q n a w → Code.roundsIn F 0 P c Q' n a w
  | 0, _, _, h => h
  | n + 1, a, w, h => wpIn_mono h fun e a' w' he => by
    cases e <;> first | exact roundsIn_mono hq n a' w' he | exact hq _ _ _ he

theorem ev_bool {σ : Loc} {T : List Value} {a : Act} (hT : VRs σ T a.tmps.toList) {c : Operand} {t : Bool} (h : (evC c).g T = .bool t) : a.eval c = .bool t := by
  cases c with
  | tmp i =>
    have h1 : nth T i = .bool t := h
    rw [nth_eq] at h1
    have h2 := hT.getD i
    rw [h1] at h2
    show a.tmps.getD i undef = .bool t
    have h3 : a.tmps.toList.getD i undef = a.tmps.getD i undef := by simp [Array.getD_eq_getD_getElem?, List.getD_eq_getElem?_getD]
    rw [← h3]
    generalize a.tmps.toList.getD i undef = x at h2
    cases h2
    rfl
  | const v => exact h
  | global g => cases h
  | func f => cases h

theorem thenA_some {o : Option Out} {k : List Value → Heap → Option Out} {out : Out} (h : thenA o k = some out) : ∃ o1, o = some o1 ∧ ((o1.ex = .normal ∧ k o1.T o1.H = some out) ∨ (o1.ex ≠ .normal ∧ out = o1)) := by
  unfold thenA at h
  cases o with
  | none => cases h
  | some o1 =>
    refine ⟨o1, rfl, ?_⟩
    obtain ⟨e, T, H⟩ := o1
    cases e with
    | normal => exact .inl ⟨rfl, h⟩
    | exit id => right; cases h; exact ⟨by simp, rfl⟩
    | ret => right; cases h; exact ⟨by simp, rfl⟩
theorem blockA_some {id : Nat} {o : Option Out} {out : Out} (h : blockA id o = some out) : ∃ o1, o = some o1 ∧ out.T = o1.T ∧ out.H = o1.H ∧ ((o1.ex = .exit id ∧ out.ex = .normal) ∨ (o1.ex ≠ .exit id ∧ out.ex = o1.ex)) := by
  unfold blockA at h
  cases o with
  | none => cases h
  | some o1 =>
    refine ⟨o1, rfl, ?_⟩
    obtain ⟨e, T, H⟩ := o1
    cases e with
    | normal => cases h; exact ⟨rfl, rfl, .inr ⟨by simp, rfl⟩⟩
    | ret => cases h; exact ⟨rfl, rfl, .inr ⟨by simp, rfl⟩⟩
    | exit id' =>
      simp only at h
      split at h
      · rename_i he; cases h; exact ⟨rfl, rfl, .inl ⟨by rw [Nat.eq_of_beq_eq_true he], rfl⟩⟩
      · rename_i he; cases h; exact ⟨rfl, rfl, .inr ⟨by intro e; cases e; simp at he, rfl⟩⟩

theorem normA_some {o : Option Out} {k : List Value → Heap → Option Out} {out : Out} (h : normA o k = some out) : ∃ o1, o = some o1 ∧ o1.ex = .normal ∧ k o1.T o1.H = some out := by
  unfold normA at h
  cases o with
  | none => cases h
  | some o1 =>
    obtain ⟨e, T, H⟩ := o1
    cases e with
    | normal => exact ⟨_, rfl, rfl, h⟩
    | exit id => cases h
    | ret => cases h

/-- a range over a function: what the interpreter met -/
theorem rangeA_some {g : Value} {ps : List Tmp} {asg body : Code} {T : List Value} {H : Heap} {out : Out} (hr : rangeA me g ps asg body T H = some out) :
    ∃ f args ex v H1 x rest, callee1 g [yieldV (Nat.succ H.next)] = some (.fn f args) ∧ me (.call f args (laid T ps asg body H)) = some ⟨ex, [v], H1⟩ ∧ H1.lps = (Nat.succ H.next, x) :: rest ∧ H1.floor ≤ Nat.succ H.next ∧ getL rest (Nat.succ H.next) = none ∧
      out = ⟨(match x.st with | .over e => e | _ => .normal), T, ⟨H1.t, H1.next, H1.floor, rest⟩⟩ ∧ x.st ≠ .busy := by
  unfold rangeA at hr
  split at hr
  case h_2 => cases hr
  case h_1 t ht =>
  split at hr
  case h_2 => cases hr
  case h_1 f args =>
  split at hr
  case h_2 => cases hr
  case h_1 ex T1 H1 hme =>
  split at hr
  case h_2 => cases hr
  case h_1 v =>
  unfold endRange at hr
  split at hr
  case h_1 => cases hr
  case h_2 x rest hlps =>
  split at hr
  case h_2 => cases hr
  case h_1 hb =>
  rw [Bool.and_eq_true] at hb
  have hx1 : x.1 = Nat.succ H.next := Nat.eq_of_beq_eq_true hb.1
  have hfl : H1.floor ≤ Nat.succ H.next := by have := hb.2; rw [ble_eq] at this; exact of_decide_eq_true this
  split at hr
  case h_1 => cases hr
  case h_2 hrest =>
  have hl : H1.lps = (Nat.succ H.next, x.2) :: rest := by rw [hlps, ← hx1]
  cases hst : x.2.st with
  | busy => rw [hst] at hr; cases hr
  | ready => rw [hst] at hr; cases hr; exact ⟨f, args, ex, v, H1, x.2, rest, ht, hme, hl, hfl, hrest, by rw [hst], by rw [hst]; simp⟩
  | over e => rw [hst] at hr; cases hr; exact ⟨f, args, ex, v, H1, x.2, rest, ht, hme, hl, hfl, hrest, by rw [hst], by rw [hst]; simp⟩

theorem laid_getO0 {T : List Value} {ps : List Tmp} {asg body : Code} {H : Heap} (i : Nat) :
    (laid T ps asg body H).getO i = if i = Nat.succ H.next then some (.loop ⟨T, ps, asg, body, .ready⟩) else if i = H.next then (getL H.lps i).map .loop else H.getO i := by
  have g : (laid T ps asg body H).get i = if i = Nat.succ H.next then none else if i = H.next then none else H.get i := by
    show ((H.t.set H.next none).set (Nat.succ H.next) none).get i = _
    by_cases h1 : i = Nat.succ H.next
    · rw [if_pos h1, h1]; exact Tr.get_set_none _ _
    · rw [if_neg h1, Tr.get_set_other _ _ _ _ h1]
      by_cases h2 : i = H.next
      · rw [if_pos h2, h2]; exact Tr.get_set_none _ _
      · rw [if_neg h2, Tr.get_set_other _ _ _ _ h2]; rfl
  have l : getL (laid T ps asg body H).lps i = if Nat.succ H.next = i then some ⟨T, ps, asg, body, .ready⟩ else getL H.lps i := getL_cons _ _ _
  unfold Heap.getO
  rw [g, l]
  by_cases h1 : i = Nat.succ H.next
  · rw [if_pos h1, if_pos h1, if_pos h1.symm]; rfl
  · rw [if_neg h1, if_neg h1, if_neg (Ne.symm h1)]
    by_cases h2 : i = H.next
    · rw [if_pos h2, if_pos h2]
    · rw [if_neg h2, if_neg h2]
theorem laid_getO {T : List Value} {ps : List Tmp} {asg body : Code} {H : Heap} (wf : WfO H) (i : Nat) :
    (laid T ps asg body H).getO i = if i = Nat.succ H.next then some (.loop ⟨T, ps, asg, body, .ready⟩) else if i = H.next then none else H.getO i := by
  rw [laid_getO0]
  by_cases h1 : i = Nat.succ H.next
  · rw [if_pos h1, if_pos h1]
  · rw [if_neg h1, if_neg h1]
    by_cases h2 : i = H.next
    · rw [if_pos h2, if_pos h2]
      have h0 : H.getO i = none := Classical.byContradiction fun h => absurd (wf.lt i h) (by omega)
      rw [(getO_none.1 h0).2]; rfl
    · rw [if_neg h2, if_neg h2]
theorem laid_mo {T : List Value} {ps : List Tmp} {asg body : Code} {H : Heap} (hf : H.floor ≤ H.next) : MoO H (laid T ps asg body H) := by
  refine ⟨by show _ ≤ H.next + 2; omega, rfl, fun i hi => ?_, fun i h h' => ?_, fun wf => ⟨fun i hi => ?_, fun i hi => ?_⟩⟩
  · rw [laid_getO0, if_neg (by omega), if_neg (by omega)]
  · rw [laid_getO0] at h'
    split at h'
    · rename_i e; subst e; exact ⟨by omega, by show _ < H.next + 2; omega⟩
    · split at h'
      · rw [(getO_none.1 h).2] at h'; exact absurd rfl h'
      · exact absurd h h'
  · show i < H.next + 2
    rw [laid_getO wf] at hi
    split at hi
    · omega
    · split at hi
      · omega
      · have := wf.lt i hi; omega
  · have hl : getL (laid T ps asg body H).lps i = if Nat.succ H.next = i then some ⟨T, ps, asg, body, .ready⟩ else getL H.lps i := getL_cons _ _ _
    rw [hl] at hi
    show ((H.t.set H.next none).set (Nat.succ H.next) none).get i = none
    by_cases h1 : Nat.succ H.next = i
    · rw [h1]; exact Tr.get_set_none _ _
    · rw [if_neg h1] at hi
      rw [Tr.get_set_other _ _ _ _ (Ne.symm h1)]
      by_cases h2 : i = H.next
      · rw [h2]; exact Tr.get_set_none _ _
      · rw [Tr.get_set_other _ _ _ _ h2]; exact wf.dis i hi
theorem popped_mo {H1 : Heap} {l : Nat} {x : Lp} {rest : List (Nat × Lp)} (hl : H1.lps = (l, x) :: rest) (hfl : H1.floor ≤ l) (hrest : getL rest l = none) : MoO H1 ⟨H1.t, H1.next, H1.floor, rest⟩ := by
  have h2 : ∀ j, j ≠ l → getL rest j = getL H1.lps j := fun j hj => by rw [hl, getL_cons, if_neg (Ne.symm hj)]
  have go : ∀ i, i ≠ l → Heap.getO ⟨H1.t, H1.next, H1.floor, rest⟩ i = H1.getO i := fun i hi => by
    show (match H1.get i with | some b => some (Obj.cells b) | none => (getL rest i).map .loop) = _
    rw [h2 i hi]; rfl
  have sub : ∀ i, Heap.getO ⟨H1.t, H1.next, H1.floor, rest⟩ i ≠ none → H1.getO i ≠ none := fun i hi e => by
    by_cases he : i = l
    · have := getO_none.1 e; rw [hl, getL_cons, if_pos he.symm] at this; cases this.2
    · rw [go i he] at hi; exact hi e
  refine ⟨Nat.le_refl _, rfl, fun i hi => go i (by omega), fun i h h' => absurd h (sub i h'), fun wf => ⟨fun i hi => wf.lt i (sub i hi), fun i hi => ?_⟩⟩
  show H1.get i = none
  refine wf.dis i fun e => ?_
  by_cases he : i = l
  · rw [he] at hi; exact hi hrest
  · rw [h2 i he] at hi; exact hi e

theorem codeC_mo (hS : SelfOk P me) (top : Bool) : ∀ (c : Code) (T : List Value) (H : Heap) (out : Out), H.floor ≤ H.next → (codeC P top c).f me T H = some out → MoO H out.H := by
  intro c
  induction c with
  | skip => intro T H out _ h; cases h; exact MoO.refl _
  | region id ops d =>
    intro T H out hf h
    cases d with
    | true =>
      have h : drawA P me ops.toList T H = some out := h
      have h' := h
      unfold drawA at h'
      split at h'
      · obtain ⟨_, es, h1, _, h3, _, _⟩ := opsD_spec ops.toList _ _ _ _ _ h'
        exact chain_mo hS h1 hf h3
      · cases h'
    | false => exact (opsA_mo hS ops.toList _ _ _ _ hf h).1
  | seq x y ix iy =>
    intro T H out hf h
    have h : thenA ((codeC P top x).f me T H) (fun T H => (codeC P top y).f me T H) = some out := h
    obtain ⟨o1, h1, h2⟩ := thenA_some h
    have m := ix _ _ _ hf h1
    rcases h2 with ⟨_, h2⟩ | ⟨_, rfl⟩
    · exact m.trans (iy _ _ _ (m.wf hf) h2)
    · exact m
  | cond c x y ix iy =>
    intro T H out hf h
    have h : ifA me ((evC c).g T) (codeC P top x) (codeC P top y) T H = some out := h
    unfold ifA at h
    split at h
    · split at h
      · exact ix _ _ _ hf h
      · exact iy _ _ _ hf h
    · cases h
  | block id x ix =>
    intro T H out hf h
    have h : blockA id ((codeC P top x).f me T H) = some out := h
    obtain ⟨o1, h1, _, h3, _⟩ := blockA_some h
    rw [h3]; exact ix _ _ _ hf h1
  | loop x _ => intro T H out hf h; exact hS.mo (.loop top x T H) out h hf
  | rangeFunc g ps asg body _ _ =>
    intro T H out hf h
    cases top with
    | false => cases h
    | true =>
      have h : rangeA me ((evT g).g T) ps.toList asg body T H = some out := h
      obtain ⟨f, args, ex, v, H1, x, rest, _, h2, h3, h4, h5, rfl, _⟩ := rangeA_some h
      have m0 := laid_mo (T := T) (ps := ps.toList) (asg := asg) (body := body) hf
      have m1 := hS.mo _ _ h2 (m0.wf hf)
      exact (m0.trans m1).trans (popped_mo h3 h4 h5)
  | exit id => intro T H out _ h; cases h; exact MoO.refl _
  | label l => intro T H out _ h; cases h; exact MoO.refl _
  | ret => intro T H out _ h; cases h; exact MoO.refl _
  | _ => intros; rename_i h; cases h

theorem PostQ.trans {σ τ : Loc} {h h1 : Nat → Option Obj} {H H1 : Heap} {w w1 : World} {ds ds' ms1 : List Deferred} {out : Out} (k : Known P B σ h H w) (hfr : Fresh σ H.next H1.next) (s : Stp B σ h H w τ h1 H1 w1) (hd : ds' = ms1 ++ ds) (hm : Marks τ h1 H1 H.next ms1) :
    ∀ e a' w', PostQ B τ h1 H1 w1 ds' out e a' w' → PostQ B σ h H w ds out e a' w' := by
  rintro e a' w' ⟨q1, ms2, υ, h2, q2, q2m, q3, q4⟩
  have keep : ∀ id, h1 id = some .dfr → H1.getO id = none → id < H1.next → h2 id = some .dfr ∧ out.H.getO id = none := by
    intro id g1 g2 g3
    have g4 : out.H.getO id = none := by
      cases ho : out.H.getO id with
      | none => rfl
      | some b => have := (q4.mo.cr id g2 (by rw [ho]; simp)).1; omega
    refine ⟨q4.ch id _ ?_, g4⟩
    unfold updO
    rw [if_pos (by rw [g2, g4])]; exact g1
  refine ⟨q1, ms2 ++ ms1, υ, h2, by rw [q2, hd, List.append_assoc], ⟨fun d hdm => ?_, ?_⟩, q3, s.trans k hfr q4⟩
  · rcases List.mem_append.1 hdm with hdm | hdm
    · obtain ⟨id, c, o, s', e1, e2, e3, e4, e5, e6⟩ := q2m.each d hdm
      exact ⟨id, c, o, s', e1, e2, e3, e4, Nat.le_trans s.mo.le e5, e6⟩
    · obtain ⟨id, c, o, s', e1, e2, e3, e4, e5, e6⟩ := hm.each d hdm
      obtain ⟨k1, k2⟩ := keep id e3 e4 e6
      exact ⟨id, c, o, s', e1, q4.goes.mono _ _ e2, k1, k2, e5, Nat.lt_of_lt_of_le e6 q4.mo.le⟩
  · refine List.pairwise_append.2 ⟨q2m.apart, hm.apart, fun d hd2 d' hd1 => ?_⟩
    obtain ⟨id, c, o, s', e1, e2, e3, e4, e5, e6⟩ := q2m.each d hd2
    obtain ⟨id', c', o', s'', f1, f2, f3, f4, f5, f6⟩ := hm.each d' hd1
    obtain ⟨k1, k2⟩ := keep id' f3 f4 f6
    rw [e1, f1]
    intro e
    injection e with e
    exact q4.goes.sim.excl id id' _ _ (by omega) e3 k1 rfl _ _ _ _ _ _ e2 (q4.goes.mono _ _ f2) e

theorem resolve_value (c : Call) (ty : TypeId) (a : Act) (f : FuncId) (first cap : Array Value) (fo : Operand) (hc : c.callee = .value fo) (hf : a.eval fo = .func (.func f) first cap) (w : World) :
    ∃ d, (resolve a.eval c ty).run P w = .ok d w ∧ (invoke d.target d.args).run P w = (callFunc f (first ++ c.args.map a.eval ++ cap)).run P w := by
  simp only [resolve, hc, hf, Deferred.ofValue]
  exact ⟨_, rfl, rfl⟩

theorem laid_ok {σ : Loc} {h : Nat → Option Obj} {H : Heap} {w : World} (k : Known P B σ h H w) {n' : Nat} (hn' : Nat.succ (Nat.succ H.next) ≤ n') (hfr : Fresh σ H.next n') {T : List Value} {tmps : Array Value} (hT : VRs σ T tmps.toList) (ps : Array Tmp) (asg body : Code) (fn : FuncId) :
    let σ' : Loc := fun id => if id = H.next then some (w.heap.size, 0, 0) else if id = Nat.succ H.next then some (w.heap.size + 1, 0, 0) else σ id
    let h' : Nat → Option Obj := fun id => if id = H.next then some .dfr else if id = Nat.succ H.next then some (.loop ⟨T, ps.toList, asg, body, .ready⟩) else h id
    Stp B σ h H w σ' h' (laid T ps.toList asg body H) ((w.alloc (.deferred (some []))).alloc (.loop { state := .ready, pending := none, fn, tmps, params := ps, assign := asg, body, defers := w.heap.size })) := by
  intro σ' h'
  have n1 : σ H.next = none := hfr _ (Nat.le_refl _) (by omega)
  have n2 : σ (Nat.succ H.next) = none := hfr _ (by omega) (by omega)
  have hne : Nat.succ H.next ≠ H.next := by omega
  have mono : ∀ id x, σ id = some x → σ' id = some x := by
    intro id x hx
    show (if id = H.next then _ else _) = _
    rw [if_neg (fun e => by rw [e, n1] at hx; cases hx), if_neg (fun e => by rw [e, n2] at hx; cases hx)]; exact hx
  have hh : ∀ id b, h id = some b → id ≠ H.next ∧ id ≠ Nat.succ H.next := by
    intro id b hb
    obtain ⟨c, o, s, e⟩ := (k.sim.blk id b hb).loc
    exact ⟨fun e' => (by rw [e', n1] at e; cases e), fun e' => (by rw [e', n2] at e; cases e)⟩
  have lt : ∀ id b c o s, h id = some b → σ id = some (c, o, s) → c < w.heap.size := fun id b c o s hb hc => ((k.sim.blk id b hb).kind hc).2
  generalize hL : (Loop.mk LoopState.ready none fn tmps ps asg body w.heap.size) = L
  have hw1 : ∀ c, c < w.heap.size → ((w.alloc (.deferred (some []))).alloc (.loop L)).heap[c]? = w.heap[c]? := by
    intro c hc
    show ((w.heap.push _).push _)[c]? = _
    rw [Array.getElem?_push_lt (by simp; omega)]
    simp [Array.getElem_push, hc]
  have hw2 : ((w.alloc (.deferred (some []))).alloc (.loop L)).heap[w.heap.size]? = some (.deferred (some [])) := by
    show ((w.heap.push _).push _)[_]? = _
    rw [Array.getElem?_push_lt (by simp)]
    simp
  have hw3 : ((w.alloc (.deferred (some []))).alloc (.loop L)).heap[w.heap.size + 1]? = some (.loop L) := by
    show ((w.heap.push _).push _)[_]? = _
    have : w.heap.size + 1 = (w.heap.push (Go.Obj.deferred (some []))).size := by simp
    rw [this, Array.getElem?_push_size]
  have hsz : ((w.alloc (.deferred (some []))).alloc (.loop L)).heap.size = w.heap.size + 2 := by
    show ((w.heap.push _).push _).size = _
    simp
  have hcase : ∀ id b, h' id = some b → (id = H.next ∧ b = .dfr) ∨ (id = Nat.succ H.next ∧ b = .loop ⟨T, ps.toList, asg, body, .ready⟩) ∨ (id ≠ H.next ∧ id ≠ Nat.succ H.next ∧ h id = some b) := by
    intro id b hb
    have hb : (if id = H.next then some Obj.dfr else if id = Nat.succ H.next then some (.loop ⟨T, ps.toList, asg, body, .ready⟩) else h id) = some b := hb
    split at hb
    · cases hb; exact .inl ⟨by assumption, rfl⟩
    · split at hb
      · cases hb; exact .inr (.inl ⟨by assumption, rfl⟩)
      · exact .inr (.inr ⟨by assumption, by assumption, hb⟩)
  have s1 : σ' H.next = some (w.heap.size, 0, 0) := if_pos rfl
  have s2 : σ' (Nat.succ H.next) = some (w.heap.size + 1, 0, 0) := by show (if _ then _ else _) = _; rw [if_neg hne, if_pos rfl]
  have s3 : ∀ id, id ≠ H.next → id ≠ Nat.succ H.next → σ' id = σ id := fun id e1 e2 => by show (if _ then _ else _) = _; rw [if_neg e1, if_neg e2]
  have orr : ∀ id b, h id = some b → OR σ' ((w.alloc (.deferred (some []))).alloc (.loop L)) id b := by
    intro id b hb
    have ho := k.sim.blk id b hb
    have hl := lt id b
    cases b with
    | cells x =>
      obtain ⟨c, o, s, arr, ty, fr, h1, h2, h3, h4, h5, h6⟩ := ho
      exact ⟨c, o, s, arr, ty, fr, mono _ _ h1, by rw [hw1 c (hl _ _ _ hb h1)]; exact h2, h3, h4, h5.mono mono, h6⟩
    | loop x =>
      obtain ⟨c, o, s, L', h1, h2, h3⟩ := ho
      exact ⟨c, o, s, L', mono _ _ h1, by rw [hw1 c (hl _ _ _ hb h1)]; exact h2, h3.T.mono mono, h3.ps, h3.asg, h3.body, h3.st⟩
    | dfr =>
      obtain ⟨c, o, s, h1, h2⟩ := ho
      exact ⟨c, o, s, mono _ _ h1, by rw [hw1 c (hl _ _ _ hb h1)]; exact h2⟩
  have sim : SimO σ' B h' ((w.alloc (.deferred (some []))).alloc (.loop L)) := by
    refine ⟨fun id b hb => ?_, fun id b hb hw => ?_, fun i j bi bj hij hi hj hw => ?_⟩
    · rcases hcase id b hb with ⟨rfl, rfl⟩ | ⟨rfl, rfl⟩ | ⟨_, _, hb⟩
      · exact ⟨_, _, _, s1, hw2⟩
      · subst hL
        exact ⟨_, _, _, _, s2, hw3, hT.mono mono, rfl, rfl, rfl, rfl, rfl⟩
      · exact orr id b hb
    · rcases hcase id b hb with ⟨rfl, rfl⟩ | ⟨rfl, rfl⟩ | ⟨_, _, hb⟩
      · exact ⟨_, _, _, s1, k.hB⟩
      · exact ⟨_, _, _, s2, Nat.le_trans k.hB (Nat.le_succ _)⟩
      · obtain ⟨c, o, s, e1, e2⟩ := k.sim.own id b hb hw
        exact ⟨c, o, s, mono _ _ e1, e2⟩
    · intro c o s c' o' s' hc hc'
      rcases hcase i bi hi with ⟨rfl, rfl⟩ | ⟨rfl, rfl⟩ | ⟨a1, a2, hi⟩ <;> rcases hcase j bj hj with ⟨rfl, rfl⟩ | ⟨rfl, rfl⟩ | ⟨b1, b2, hj⟩
      · exact absurd rfl hij
      · rw [s1] at hc; rw [s2] at hc'; cases hc; cases hc'; omega
      · rw [s1] at hc; rw [s3 j b1 b2] at hc'; cases hc; have := lt _ _ _ _ _ hj hc'; omega
      · rw [s2] at hc; rw [s1] at hc'; cases hc; cases hc'; omega
      · exact absurd rfl hij
      · rw [s2] at hc; rw [s3 j b1 b2] at hc'; cases hc; have := lt _ _ _ _ _ hj hc'; omega
      · rw [s3 i a1 a2] at hc; rw [s1] at hc'; cases hc'; have := lt _ _ _ _ _ hi hc; omega
      · rw [s3 i a1 a2] at hc; rw [s2] at hc'; cases hc'; have := lt _ _ _ _ _ hi hc; omega
      · rw [s3 i a1 a2] at hc; rw [s3 j b1 b2] at hc'; exact k.sim.excl i j bi bj hij hi hj hw _ _ _ _ _ _ hc hc'
  refine ⟨⟨sim, by show _ ≤ H.next + 2; omega, fun id hid => s3 id (fun e => ?_) (fun e => ?_), mono, rfl, rfl, rfl, by rw [hsz]; omega, fun c hc _ => hw1 c hc, fun c ⟨id, b, o, s, hb, hw, hc⟩ hlt => ?_⟩, fun id b hb => ?_, fun id b hb => ?_, laid_mo k.fl⟩
  · rcases hid with h1 | h1
    · omega
    · have : H.next + 2 ≤ id := h1; omega
  · rcases hid with h1 | h1
    · omega
    · have : H.next + 2 ≤ id := h1; omega
  · rcases hcase id b hb with ⟨rfl, rfl⟩ | ⟨rfl, rfl⟩ | ⟨a1, a2, hb⟩
    · rw [s1] at hc; cases hc; omega
    · rw [s2] at hc; cases hc; omega
    · rw [s3 id a1 a2] at hc; exact ⟨id, b, o, s, hb, hw, hc⟩
  · rw [laid_getO k.wf] at hb
    split at hb
    · rename_i e; cases hb; subst e; show (if _ then _ else _) = _; rw [if_neg hne, if_pos rfl]
    · rename_i e1
      split at hb
      · cases hb
      · rename_i e2; show (if _ then _ else _) = _; rw [if_neg e2, if_neg e1]; exact k.sub id b hb
  · unfold updO at hb
    split at hb
    · have := hh id b hb
      show (if _ then _ else _) = _; rw [if_neg this.1, if_neg this.2]; exact hb
    · rw [laid_getO k.wf] at hb
      split at hb
      · rename_i e; cases hb; subst e; show (if _ then _ else _) = _; rw [if_neg hne, if_pos rfl]
      · rename_i e1
        split at hb
        · cases hb
        · rename_i e2; show (if _ then _ else _) = _; rw [if_neg e2, if_neg e1]; exact k.sub id b hb

theorem codeC_ok (hP : Good P) (hS : SelfOk P me) (top : Bool) : ∀ (c : Code) (T : List Value) (H : Heap) (out : Out), (codeC P top c).f me T H = some out →
    ∀ (σ : Loc) (h : Nat → Option Obj) (w : World) (a : Act) (r : Option Nat), (top = true → r = none) → Known P B σ h H w → Fresh σ H.next out.H.next → VRs σ T a.tmps.toList → c.wpIn (Wd r) 0 P (PostQ B σ h H w a.defers out) a w := by
  intro c
  have plain : ∀ {σ : Loc} {h : Nat → Option Obj} {H : Heap} {w : World} {a : Act} {out : Out} {e : Exit} {τ : Loc} {h' : Nat → Option Obj} {a' : Act} {w' : World}, e = exOf out.ex → a'.defers = a.defers → VRs τ out.T a'.tmps.toList → Stp B σ h H w τ h' out.H w' → PostQ B σ h H w a.defers out e a' w' :=
    fun q1 q2 q3 q4 => ⟨q1, [], _, _, q2, ⟨by simp, .nil⟩, q3, q4⟩
  induction c with
  | skip => intro T H out hr σ h w a r _ k _ hT; cases hr; exact wpIn_skip (plain rfl rfl hT (Stp.refl k))
  | region id ops d =>
    intro T H out hr σ h w a r _ k hfr hT
    cases d with
    | true => exact drawA_ok hP hS ops id r k hfr hT hr
    | false =>
      refine wpIn_region ?_
      have hm := opsA_mo hS ops.toList _ _ _ _ k.fl hr
      rw [List.range_eq_range', ← Array.length_toList]
      refine opsA_ok hP hS ops r ops.toList 0 (by simp) σ h T H w a out k hfr hT hr ?_
      intro τ h' a' w' q1 q2 q3
      exact plain (by rw [hm.2]; rfl) q2 q1 q3
  | seq x y ix iy =>
    intro T H out hr σ h w a r ht k hfr hT
    have hr : thenA ((codeC P top x).f me T H) (fun T H => (codeC P top y).f me T H) = some out := hr
    obtain ⟨o1, h1, h2⟩ := thenA_some hr
    have m1 := codeC_mo hS top x _ _ _ k.fl h1
    refine wpIn_seq ?_
    rcases h2 with ⟨hx, h2⟩ | ⟨hx, rfl⟩
    · have m2 := codeC_mo hS top y _ _ _ (m1.wf k.fl) h2
      refine wpIn_mono (ix _ _ _ h1 σ h w a r ht k (hfr.left m2.le) hT) ?_
      rintro e a' w' ⟨q1, ms, τ, h', q2, qm, q3, q4⟩
      rw [hx] at q1
      subst q1
      show y.wpIn (Wd r) 0 P (PostQ B σ h H w a.defers out) a' w'
      exact wpIn_mono (iy _ _ _ h2 τ h' w' a' r ht (k.next q4) (hfr.right q4.goes) q3) (PostQ.trans k (hfr.left m2.le) q4 q2 qm)
    · refine wpIn_mono (ix _ _ _ h1 σ h w a r ht k hfr hT) ?_
      rintro e a' w' q
      have q1 := q.1
      cases he : out.ex with
      | normal => exact absurd he hx
      | exit id => rw [he] at q1; subst q1; exact q
      | ret => rw [he] at q1; subst q1; exact q
  | cond c x y ix iy =>
    intro T H out hr σ h w a r ht k hfr hT
    have hr : ifA me ((evC c).g T) (codeC P top x) (codeC P top y) T H = some out := hr
    unfold ifA at hr
    split at hr
    · rename_i t hv
      refine wpIn_cond (ev_bool hT hv) ?_
      cases t with
      | true => exact ix _ _ _ hr σ h w a r ht k hfr hT
      | false => exact iy _ _ _ hr σ h w a r ht k hfr hT
    · cases hr
  | block id x ix =>
    intro T H out hr σ h w a r ht k hfr hT
    have hr : blockA id ((codeC P top x).f me T H) = some out := hr
    obtain ⟨o1, h1, hT1, hH1, h2⟩ := blockA_some hr
    refine wpIn_block ?_
    rw [hH1] at hfr
    refine wpIn_mono (ix _ _ _ h1 σ h w a r ht k hfr hT) ?_
    rintro e a' w' ⟨q1, ms, τ, h', q2, qm, q3, q4⟩
    have fin : ∀ e, e = exOf out.ex → PostQ B σ h H w a.defers out e a' w' := fun e he => ⟨he, ms, τ, h', q2, by rw [hH1]; exact qm, by rw [hT1]; exact q3, by rw [hH1]; exact q4⟩
    rcases h2 with ⟨g1, g2⟩ | ⟨g1, g2⟩
    · rw [g1] at q1
      subst q1
      show (if id = id then _ else _)
      rw [if_pos rfl]
      exact fin _ (by rw [g2]; rfl)
    · cases he : o1.ex with
      | normal => rw [he] at q1; subst q1; exact fin _ (by rw [g2, he])
      | ret => rw [he] at q1; subst q1; exact fin _ (by rw [g2, he])
      | exit i =>
        rw [he] at q1; subst q1
        show (if i = id then _ else _)
        rw [if_neg (fun e => g1 (by rw [he, e]))]
        exact fin _ (by rw [g2, he]; rfl)
  | loop x _ =>
    intro T H out hr σ h w a r ht k hfr hT
    obtain ⟨n, hn⟩ := hS.loop
    exact wpIn_loop_rounds n (hn top x T H out hr B σ h w a r ht k hfr hT)
  | rangeFunc g ps asg body _ _ =>
    intro T H out hr σ h w a r ht k hfr hT
    cases top with
    | false => cases hr
    | true =>
      have hr0 := ht rfl
      subst hr0
      have hr : rangeA me ((evT g).g T) ps.toList asg body T H = some out := hr
      obtain ⟨f, args, ex, v, H1, x, rest, e1, e2, e3, e4, e5, e6, e7⟩ := rangeA_some hr
      have m0 := laid_mo (T := T) (ps := ps.toList) (asg := asg) (body := body) k.fl
      have m1 := hS.mo _ _ e2 (m0.wf k.fl)
      have hnx : Nat.succ (Nat.succ H.next) ≤ H1.next := m1.le
      have hfr1 : Fresh σ H.next H1.next := by subst e6; exact hfr
      have s1 := laid_ok k hnx hfr1 hT ps asg body
      refine wpIn_rangeFunc fun fn _ => ?_
      have s1 := s1 fn
      revert s1
      generalize hσ' : (fun id => if id = H.next then some (w.heap.size, 0, 0) else if id = Nat.succ H.next then some (w.heap.size + 1, 0, 0) else σ id : Loc) = σ'
      generalize hh' : (fun id => if id = H.next then some Obj.dfr else if id = Nat.succ H.next then some (.loop ⟨T, ps.toList, asg, body, .ready⟩) else h id : Nat → Option Obj) = h'
      intro s1
      have k1 := k.next s1
      have f1 : σ' H.next = some (w.heap.size, 0, 0) := by rw [← hσ']; exact if_pos rfl
      have f2 : σ' (Nat.succ H.next) = some (w.heap.size + 1, 0, 0) := by rw [← hσ']; show (if _ then _ else _) = _; rw [if_neg (by omega), if_pos rfl]
      have f3 : h' H.next = some .dfr := by rw [← hh']; exact if_pos rfl
      -- the callee
      unfold callee1 at e1
      split at e1
      case h_2 => cases e1
      case h_1 gv first cap hgv =>
      split at e1
      case h_3 => cases e1
      case h_2 l => split at e1 <;> cases e1
      case h_1 gf =>
      cases e1
      have hev : ∃ first' cap', a.eval g = .func (.func f) first' cap' ∧ VRs σ first.toList first'.toList ∧ VRs σ cap.toList cap'.toList := by
        cases g with
        | tmp i =>
          have h1 : nth T i = .func (.func f) first cap := hgv
          have h2 := hT.getD i
          rw [nth_eq] at h1
          rw [h1] at h2
          have h3 : a.tmps.toList.getD i undef = a.tmps.getD i undef := by simp [Array.getD_eq_getD_getElem?, List.getD_eq_getElem?_getD]
          rw [h3] at h2
          show ∃ first' cap', a.tmps.getD i undef = _ ∧ _
          generalize a.tmps.getD i undef = u at h2
          cases h2
          rename_i a1 a2 b1 b2 b3
          exact ⟨_, _, rfl, b1, b2⟩
        | const u => cases hgv
        | global i => cases hgv
        | func i => cases hgv
      obtain ⟨first', cap', g1, g2, g3⟩ := hev
      have hargs : VRs σ' (appN first.toList (appN [yieldV (Nat.succ H.next)] cap.toList)) (first' ++ #[Value.func (.yield (w.heap.size + 1)) #[] #[]] ++ cap').toList := by
        rw [appN_eq, appN_eq]
        simp only [Array.toList_append]
        rw [List.append_assoc]
        exact (g2.mono s1.goes.mono).append (VRs.append (.yld _ _ _ _ f2 .nil) (g3.mono s1.goes.mono))
      obtain ⟨⟨fnn, cc, hf, hb⟩, hcall⟩ := hS.call f _ _ ex v H1 e2 B σ' h' _ _ k1 (hfr1.right s1.goes) hargs
      obtain ⟨d, d1, d2⟩ := resolve_value (P := P) (rangeCall g (w.heap.size + 1)) 0 a f first' cap' g rfl g1 ((w.alloc (.deferred (some []))).alloc (.loop { state := .ready, pending := none, fn, tmps := a.tmps, params := ps, assign := asg, body, defers := w.heap.size }))
      refine ⟨w.heap.size + 1, [{ target := .collected w.heap.size, args := #[] }], _, d, _, f, first' ++ #[Value.func (.yield (w.heap.size + 1)) #[] #[]] ++ cap', (w.alloc (.deferred (some []))).alloc (.loop { state := .ready, pending := none, fn, tmps := a.tmps, params := ps, assign := asg, body, defers := w.heap.size }), run_enterLoop_outer fn a.tmps ps asg body, d1, fun _ _ => trivial, ?_, fun hd => absurd hd (by simp), ?_⟩
      · rw [d2, callFunc_enter hP hf hb]
        have hmap : (rangeCall g (w.heap.size + 1)).args.map a.eval = #[Value.func (.yield (w.heap.size + 1)) #[] #[]] := by
          simp only [rangeCall, List.map_toArray, List.map_cons, List.map_nil]; rfl
        rw [hmap]
      refine CallsIn.mono hcall ?_
      rintro e w3 ⟨v', τ, h3, rfl, _, s2⟩
      have k3 := k1.next s2
      have hl1 : getL H1.lps (Nat.succ H.next) = some x := by rw [e3, getL_cons, if_pos rfl]
      have t2 := s2.goes.mono _ _ f2
      have t1 := s2.goes.mono _ _ f1
      obtain ⟨_, c, o, s, L, q1, q2, q3, q4⟩ := k3.lrec hl1
      rw [t2] at q1; cases q1
      have hnb : L.state ≠ .busy := by
        have := q4.st
        cases hx : x.st with
        | ready => rw [hx] at this; rw [this.1]; simp
        | busy => exact absurd hx e7
        | over e => rw [hx] at this; cases e with
          | normal => exact this.elim
          | ret => rw [this.1]; simp
          | exit id => rw [this.1]; simp
      have s3 := turn_ok k3 hl1 e4 (lps' := rest) none e5 (fun j hj => by rw [e3, getL_cons, if_neg (Ne.symm hj)]) t2 (.loop { L with state := .exhausted }) (fun _ h => by cases h)
      have hdfr : h3 H.next = some .dfr ∧ H1.getO H.next = none := by
        have z0 : (laid T ps.toList asg body H).getO H.next = none := by rw [laid_getO k.wf, if_neg (by omega), if_pos rfl]
        have z1 : H1.getO H.next = none := by
          cases ho : H1.getO H.next with
          | none => rfl
          | some b => have := (s2.mo.cr _ z0 (by rw [ho]; simp)).1; have : H.next + 2 ≤ H.next := this; omega
        refine ⟨s2.ch _ _ ?_, z1⟩
        unfold updO
        rw [if_pos (by rw [z0, z1])]; exact f3
      have hfin : ∀ e, e = exOf out.ex → PostQ B σ h H w a.defers out e { a with defers := [{ target := .collected w.heap.size, args := #[] }] ++ a.defers } (w3.putObj (w.heap.size + 1) (.loop { L with state := .exhausted })) := by
        intro e he
        have hh4 : (if H.next = Nat.succ H.next then (none : Option Lp).map Obj.loop else h3 H.next) = some .dfr := by rw [if_neg (by omega)]; exact hdfr.1
        have hO4 : Heap.getO ⟨H1.t, H1.next, H1.floor, rest⟩ H.next = none := by
          rw [getO_none]
          have := getO_none.1 hdfr.2
          refine ⟨this.1, ?_⟩
          have h2 := this.2
          rw [e3, getL_cons, if_neg (by omega)] at h2
          exact h2
        subst e6
        refine ⟨he, [{ target := .collected w.heap.size, args := #[] }], τ, (fun id => if id = Nat.succ H.next then (none : Option Lp).map Obj.loop else h3 id), rfl, ⟨?_, by simp⟩, ?_, ?_⟩
        rotate_left 2
        · exact s1.trans k (hfr1.left m1.le |>.left (Nat.le_refl _)) (s2.trans k1 (hfr1.right s1.goes) s3)
        · intro d hd
          rw [List.mem_singleton] at hd
          subst hd
          exact ⟨H.next, w.heap.size, 0, 0, rfl, t1, hh4, hO4, Nat.le_refl _, by show H.next < H1.next; omega⟩
        · exact hT.mono fun id x hx => s2.goes.mono _ _ (s1.goes.mono _ _ hx)
      refine ⟨L.pending, _, run_endLoop q3 hnb, ?_⟩
      have hex : out.ex = (match x.st with | .over e => e | _ => .normal) := by rw [e6]
      have hst := q4.st
      cases hx : x.st with
      | ready =>
        rw [hx] at hst hex
        split
        · exact hfin _ (by rw [hex]; rfl)
        · rename_i hp; rw [hst.2] at hp; cases hp
      | busy => exact absurd hx e7
      | over e =>
        rw [hx] at hst hex
        cases e with
        | normal => exact hst.elim
        | ret =>
          split
          · rename_i hp; rw [hst.2] at hp; cases hp
          · rename_i hp; rw [hst.2] at hp; cases hp; exact wpIn_ret (hfin _ (by rw [hex]; rfl))
        | exit id =>
          split
          · rename_i hp; rw [hst.2] at hp; cases hp
          · rename_i hp; rw [hst.2] at hp; cases hp; exact wpIn_exit (hfin _ (by rw [hex]; rfl))
  | exit id => intro T H out hr σ h w a r _ k _ hT; cases hr; exact wpIn_exit (plain rfl rfl hT (Stp.refl k))
  | label l => intro T H out hr σ h w a r _ k _ hT; cases hr; exact wpIn_label (plain rfl rfl hT (Stp.refl k))
  | ret => intro T H out hr σ h w a r _ k _ hT; cases hr; exact wpIn_ret (plain rfl rfl hT (Stp.refl k))
  | _ => intros; rename_i hr _ _ _ _ _ _ _ _ _; cases hr
end
end Go.Ab
