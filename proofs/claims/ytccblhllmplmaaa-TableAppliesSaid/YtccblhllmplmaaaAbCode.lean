import Derived.Test.YtccblhllmplmaaaAbStep
namespace Go.Ab
open Go

section
variable {P : Program} {B : Nat} {σ : Loc} {h : Nat → Option Obj} {H H' : Heap} {w : World} {self : Self}

theorem restore_some {f : Nat} {r : R} {v : Value} (hr : restore f r = some (v, H')) : ∃ H1, r = some (v, H1) ∧ H' = setFloor H1 f := by
  cases r with
  | none => cases hr
  | some p => obtain ⟨u, H1⟩ := p; cases hr; exact ⟨H1, rfl, rfl⟩

theorem callOut_some {x : Option Tgt} {v : Value} (hr : callOut self x H = some (v, H')) : ∃ t ex, x = some t ∧ self (taskOf H t) = some ⟨ex, [v], H'⟩ := by
  unfold callOut at hr
  split at hr
  · rename_i t
    split at hr
    · rename_i ex T H1 hs
      split at hr
      · cases hr; exact ⟨t, ex, rfl, hs⟩
      · cases hr
    · cases hr
  · cases hr

theorem stepC_mo (hS : SelfOk P self) {op : Op} {T : List Value} {v : Value} (hf : H.floor ≤ H.next) (hr : (stepC P op).f self T H = some (v, H')) : MoO H H' := by
  have call : ∀ x, callOut self x H = some (v, H') → MoO H H' := by
    intro x hx
    obtain ⟨t, ex, _, hs⟩ := callOut_some hx
    have := hS.mo _ _ hs
    cases t <;> exact this hf
  unfold stepC at hr
  split at hr
  case h_2 => cases hr
  case h_1 =>
  unfold stepC0 at hr
  split at hr
  · rename_i c
    split at hr
    · exact (opC_mo hf hr).toO
    · exact call _ hr
    · exact call _ hr
  · exact (opC_mo hf hr).toO

theorem addr_resolve (c : Call) (ty : TypeId) (a : Act) (f : FuncId) (first cap : Array Value) (fo : Operand) (hc : c.callee = .value fo) (hf : a.eval fo = .func (.func f) first cap) (w : World) :
    (do let d ← resolve a.eval c ty; invoke d.target d.args : Sem Next).run P w = (callFunc f (first ++ c.args.map a.eval ++ cap)).run P w := by
  simp only [resolve, hc, hf, Deferred.ofValue, Sem.run_bind, Sem.run_pure, Result.andThen_ok, invoke]

theorem yield_resolve (c : Call) (ty : TypeId) (a : Act) (l : Nat) (fo : Operand) (hc : c.callee = .value fo) (hf : a.eval fo = .func (.yield l) #[] #[]) (w : World) :
    (do let d ← resolve a.eval c ty; invoke d.target d.args : Sem Next).run P w = (Instr.yield l (c.args.map a.eval)).run P w := by
  simp only [resolve, hc, hf, Deferred.ofValue, Sem.run_bind, Sem.run_pure, Result.andThen_ok, invoke]
  simp

/-- one operation -/
theorem stepC_gen (hP : Good P) (hS : SelfOk P self) (o : Oper) {T : List Value} {a : Act} {v : Value} {r : Option Nat} (hs : SimO σ B h w) (hB : B ≤ w.heap.size) (hG : GlobOk P σ)
    (hag : (kindC P o.op = 1 ∨ kindC P o.op = 4) → ∀ x ∈ o.op.operands.toList, ∀ id, idOf ((evC x).g T) = some id → ∀ b, H.getO id = some b → h id = some b) (hwf : WfO H) (hfl : H.floor ≤ H.next) (hkn : kindC P o.op = 3 → Known P B σ h H w) (hfr : Fresh σ H.next H'.next) (hT : VRs σ T a.tmps.toList)
    (hr : (stepC P o.op).f self T H = some (v, H')) {next : Act → World → Prop} {Q : Exit → Act → World → Prop}
    (hn : ∀ v' τ w', VR τ v v' → GoesO B σ h H.next w τ (updO h H H') H'.next w' → next (a.put o.dst v') w') : o.wpIn (Wd r) 0 P a w next Q := by
  refine ⟨fun _ _ => trivial, ?_⟩
  unfold stepC at hr
  split at hr
  case h_2 => cases hr
  case h_1 hok =>
  have plainOp : (∀ c, o.op ≠ .defer c) → (opC P o.op).f T H = some (v, H') → o.uponIn (Wd r) 0 P a next Q ((o.semAt (Wd r).round a.eval).run P w) := by
    intro hd hop
    rw [Oper.semAt_eq _ _ _ hd]
    obtain ⟨rr, v', w', τ, h1, h2, h3, h4⟩ := opC_ok (P := P) o hs.cells hB hG hT hfr hok (fun hk x hx id hid b hb => cellsOf_some.2 (hag hk x hx id hid _ (by unfold Heap.getO; rw [hb]))) hop
    have m := opC_mo hfl hop
    have h4 := GoesO.lift hs h4 m.lp (m.dis hwf)
    rw [h1]
    rcases h2 with rfl | ⟨rfl, rfl⟩
    · exact hn v' τ w' h3 h4
    · exact hn undef τ w' h3 h4
  have callOp : ∀ f args args' ex, kindC P o.op = 3 → (∃ c, o.op = .call c) → (execOp a.eval o).run P w = (callFunc f args').run P w → self (.call f args H) = some ⟨ex, [v], H'⟩ → VRs σ args args'.toList → o.uponIn (Wd r) 0 P a next Q ((o.semAt (Wd r).round a.eval).run P w) := by
    intro f args args' ex hk3 ⟨c0, hc0⟩ he hs' hv
    obtain ⟨⟨fn, c, hf, hb⟩, hc⟩ := hS.call f args H ex v H' hs' B σ h w args' (hkn hk3) hfr hv
    rw [Oper.semAt_eq _ _ _ (by intro c e; rw [hc0] at e; cases e), he, callFunc_enter hP hf hb]
    rw [Oper.uponIn_enter]
    refine ⟨fun hd => absurd hd (by simp), ?_⟩
    have : CallsIn (Wd r) 0 P f args' w (fun e w' => ∃ v' τ h', e = .returned v' ∧ VR τ v v' ∧ Stp B σ h H w τ h' H' w') := hc
    refine CallsIn.mono this ?_
    rintro e w' ⟨v', τ, h', rfl, h1, h2⟩
    exact hn v' τ w' h1 (h2.goes.less h2.ch)
  rw [allN_eq, List.all_eq_true] at hok
  unfold stepC0 at hr
  split at hr
  case h_2 hne =>
    refine plainOp ?_ hr
    intro c e
    rw [e] at hr
    cases hr
  case h_1 c hop =>
    have hex : execOp a.eval o = (do let d ← resolve a.eval c o.type; invoke d.target d.args : Sem Next) := by unfold execOp; rw [hop]
    have hargs : VRs σ (evs c.args.toList T) (c.args.map a.eval).toList := by
      have := evs_ok (P := P) hT hG c.args.toList fun y hy => hok y (by rw [hop]; simp [Op.operands, Call.operands]; exact .inr (by simpa using hy))
      simpa using this
    split at hr
    case h_1 b hb =>
      exact plainOp (by intro c' e; rw [hop] at e; cases e) hr
    case h_2 fo hc =>
      obtain ⟨t, ex, hx, hs'⟩ := callOut_some hr
      have hfo := ev_ok (P := P) hT hG fo (hok fo (by rw [hop]; simp [Op.operands, Call.operands, hc]))
      unfold callee1 at hx
      split at hx
      case h_2 => cases hx
      case h_1 fn first cap hfv =>
      split at hx
      case h_3 => cases hx
      case h_2 l =>
        split at hx
        case h_2 => cases hx
        case h_1 =>
        cases hx
        rw [hfv] at hfo
        generalize hev : a.eval fo = fv at hfo
        cases hfo
        rename_i cc oo ss hσ _ _
        obtain ⟨fn, tmps, asg, body, hy, hR⟩ := hS.round l _ H ex v H' hs' B σ h w (c.args.map a.eval) cc oo ss r (hkn (by simp only [kindC, hop, hc])) hfr hargs hσ
        rw [Oper.semAt_eq _ _ _ (by intro c' e; rw [hop] at e; cases e), hex, yield_resolve c o.type a cc fo hc hev w, hy, Oper.uponIn_round]
        refine ⟨fun hd => absurd hd (by simp), RoundIn.mono hR ?_⟩
        rintro e w' ⟨v', τ, h', rfl, h1, h2⟩
        exact hn v' τ w' h1 (h2.goes.less h2.ch)
      case h_1 g =>
      cases hx
      rw [hfv] at hfo
      generalize hev : a.eval fo = fv at hfo
      cases hfo
      rename_i first' cap' hvf hvc _
      refine callOp g _ (first' ++ c.args.map a.eval ++ cap') ex (by simp only [kindC, hop, hc]) ⟨c, hop⟩ ?_ hs' ?_
      · rw [hex]; exact addr_resolve c o.type a g first' cap' fo hc hev w
      · rw [appN_eq, appN_eq]
        simp only [Array.toList_append]
        rw [List.append_assoc]
        exact hvf.append (hargs.append hvc)
    case h_3 ro name hc =>
      obtain ⟨tt, ex, hx, hs'⟩ := callOut_some hr
      have hro := ev_ok (P := P) hT hG ro (hok ro (by rw [hop]; simp [Op.operands, Call.operands, hc]))
      unfold invoke1 at hx
      split at hx
      case h_2 => cases hx
      case h_1 t u hrv =>
      split at hx
      case h_2 => cases hx
      case h_1 f0 ptr hm =>
      split at hx
      case h_2 => cases hx
      case h_1 b hp =>
      split at hx
      case isFalse => cases hx
      case isTrue hbp =>
      cases hx
      rw [hrv] at hro
      generalize hev : a.eval ro = rv at hro
      cases hro
      rename_i u' hu _
      have hbp : b = ptr := by simpa using hbp
      subst hbp
      refine callOp f0 _ (#[u'] ++ c.args.map a.eval) ex (by simp only [kindC, hop, hc]) ⟨c, hop⟩ ?_ hs' ?_
      · rw [hex]
        have hinv : ∀ args' : Array Value, invoke (.fn (.method name) #[]) (#[Value.iface t u'] ++ args') = callMethod (.iface t u') name args' := by
          intro args'
          have e0 : (#[Value.iface t u'] ++ args')[0]? = some (.iface t u') := by rw [Array.getElem?_append_left (by simp)]; rfl
          have e1 : (#[Value.iface t u'] ++ args').extract 1 (#[Value.iface t u'] ++ args').size = args' := by
            apply Array.ext'
            simp
          unfold invoke
          rw [e0, e1]
        simp only [resolve, hc, hev, Sem.run_bind, Sem.run_pure, Result.andThen_ok, hinv]
        simp only [callMethod, Sem.run_bind, run_program, Result.andThen_ok]
        have hmm := method_run (P := P) hm hp u' w (P.types.size + Made.depth - 1)
        have hd : P.types.size + Made.depth - 1 + 1 = P.types.size + Made.depth := by
          have : 0 < Made.depth := by decide
          omega
        rw [hd] at hmm
        rw [hmm]
        rfl
      · simp only [Array.toList_append]
        exact hu.cons hargs

theorem stepC_ok (hP : Good P) (hS : SelfOk P self) (o : Oper) {T : List Value} {a : Act} {v : Value} {r : Option Nat} (k : Known P B σ h H w) (hfr : Fresh σ H.next H'.next) (hT : VRs σ T a.tmps.toList)
    (hr : (stepC P o.op).f self T H = some (v, H')) {next : Act → World → Prop} {Q : Exit → Act → World → Prop}
    (hn : ∀ v' τ h' w', VR τ v v' → Stp B σ h H w τ h' H' w' → next (a.put o.dst v') w') : o.wpIn (Wd r) 0 P a w next Q :=
  stepC_gen hP hS o k.sim k.hB k.glob (fun _ _ _ id _ b hb => k.sub id b hb) k.wf k.fl (fun _ => k) hfr hT hr fun v' τ w' hv g => hn v' τ _ w' hv (Stp.of_does k g (stepC_mo hS k.fl hr))

/-- operations in the text's order -/
theorem opsA_mo (hS : SelfOk P self) (all : List Oper) : ∀ (l : List Oper) (T : List Value) (H : Heap) (out : Out), H.floor ≤ H.next → opsA P self all l T H = some out → MoO H out.H ∧ out.ex = .normal
  | [], T, H, out, _, hr => by cases hr; exact ⟨MoO.refl H, rfl⟩
  | o :: l, T, H, out, hf, hr => by
    have hr' : opF1 P self o ((wantedC all o.guard).f T) T H (opsA P self all l) = some out := hr
    unfold opF1 at hr'
    split at hr'
    · split at hr'
      · rename_i v H1 hs
        have m := stepC_mo hS hf hs
        have ih := opsA_mo hS all l _ H1 out (m.wf hf) hr'
        exact ⟨m.trans ih.1, ih.2⟩
      · cases hr'
    · exact opsA_mo hS all l _ H out hf hr'

theorem opsA_ok (hP : Good P) (hS : SelfOk P self) (ops : Array Oper) (r : Option Nat) {Q : Exit → Act → World → Prop} : ∀ (l : List Oper) (i : Nat), ops.toList.drop i = l →
    ∀ (σ : Loc) (h : Nat → Option Obj) (T : List Value) (H : Heap) (w : World) (a : Act) (out : Out), Known P B σ h H w → Fresh σ H.next out.H.next → VRs σ T a.tmps.toList → opsA P self ops.toList l T H = some out →
    (∀ τ h' a' w', VRs τ out.T a'.tmps.toList → a'.defers = a.defers → Stp B σ h H w τ h' out.H w' → Q .normal a' w') → wpOpsIn (Wd r) 0 P ops Q (List.range' i l.length) a w
  | [], i, hl, σ, h, T, H, w, a, out, k, hfr, hT, hr, hq => by
    cases hr
    exact hq σ h a w hT rfl (Stp.refl k)
  | o :: l, i, hl, σ, h, T, H, w, a, out, k, hfr, hT, hr, hq => by
    have ho : ops[i]? = some o := by
      have : (ops.toList.drop i)[0]? = some o := by rw [hl]; rfl
      simpa using this
    have hl' : ops.toList.drop (i + 1) = l := by
      have : (ops.toList.drop i).drop 1 = l := by rw [hl]; rfl
      rwa [List.drop_drop] at this
    have hr' : opF1 P self o ((wantedC ops.toList o.guard).f T) T H (opsA P self ops.toList l) = some out := hr
    unfold opF1 at hr'
    simp only [List.length_cons, List.range'_succ, wpOpsIn, ho]
    have hw := wanted_eq hT (ops := ops) o
    split at hr'
    · rename_i hwt
      rw [hwt] at hw
      rw [if_pos hw]
      split at hr'
      · rename_i v H1 hs
        have m1 := stepC_mo hS k.fl hs
        have m2 := opsA_mo hS ops.toList l _ H1 out (m1.wf k.fl) hr'
        refine stepC_ok hP hS o k (hfr.left m2.1.le) hT hs ?_
        intro v' τ h' w' hv st
        obtain ⟨p1, p2⟩ := put_ok (σ := τ) (hT.mono st.goes.mono) o.dst hv
        refine opsA_ok hP hS ops r l (i + 1) hl' τ h' _ H1 w' _ out (k.next st) (hfr.right st.goes) p1 hr' ?_
        intro υ h2 a' w2 q1 q2 q3
        exact hq υ h2 a' w2 q1 (q2.trans p2) (st.trans k (hfr.left m2.1.le) q3)
      · cases hr'
    · rename_i hwt
      rw [hwt] at hw
      rw [if_neg (by rw [hw]; simp)]
      refine ⟨fun _ _ => trivial, ?_⟩
      obtain ⟨p1, p2⟩ := put_ok hT o.dst (VR.undef (σ := σ))
      refine opsA_ok hP hS ops r l (i + 1) hl' σ h _ H w _ out k hfr p1 hr' ?_
      intro υ h2 a' w2 q1 q2 q3
      exact hq υ h2 a' w2 q1 (q2.trans p2) q3
end
end Go.Ab
