import Derived.Test.YtccblhllmplmaaaAbRun1
namespace Go.Ab
open Go

section
variable {P : Program} {me : Self} {B : Nat}
/-! what a function hands back -/
theorem loadC_ptr {t : TypeId} {a v : Value} {H H' : Heap} (hr : (loadC P t).f a H = some (v, H')) : ∃ id off, a = .pointer (some ⟨id, off, none⟩) := by
  unfold loadC at hr
  split at hr
  · simp only [loadAgg] at hr
    split at hr
    · split at hr
      · split at hr
        · exact ⟨_, _, rfl⟩
        · cases hr
      · cases hr
    · cases hr
  · simp only [loadOne] at hr
    split at hr
    · split at hr
      · split at hr
        · exact ⟨_, _, rfl⟩
        · cases hr
      · cases hr
    · cases hr
  · cases hr

def resVar (tmps : Array Value) : ResultVar → Sem Value
  | .tmp t => pure (tmps.getD t undef)
  | .cell a t => do loadVar t (← asAddr (tmps.getD a undef))

section
variable {σ : Loc} {h : Nat → Option Obj} {H : Heap} {w : World} {T : List Value} {tmps : Array Value}
theorem resultOne_ok (k : Known P B σ h H w) (hT : VRs σ T tmps.toList) {r : ResultVar} {v : Value} (hr : resultOne P T H r = some v) : ∃ v', (resVar tmps r).run P w = .ok v' w ∧ VR σ v v' := by
  have hget : ∀ i, VR σ (nth T i) (tmps.getD i undef) := fun i => by
    have h2 := hT.getD i
    have h3 : tmps.toList.getD i undef = tmps.getD i undef := by simp [Array.getD_eq_getD_getElem?, List.getD_eq_getElem?_getD]
    rw [nth_eq, ← h3]; exact h2
  cases r with
  | tmp t => cases hr; exact ⟨_, rfl, hget t⟩
  | cell a t =>
    unfold resultOne at hr
    simp only at hr
    split at hr
    · rename_i u H1 hl
      cases hr
      obtain ⟨id, off, he⟩ := loadC_ptr hl
      obtain ⟨_, v', h1, h2⟩ := load_ok k.sim.cells (fun id _ b hb => cellsOf_some.2 (k.sub id _ (by unfold Heap.getO; rw [hb]))) (hget a) hl
      refine ⟨v', ?_, h2⟩
      have hg := hget a
      rw [he] at hg
      obtain ⟨_, c, o, s, hp, _⟩ := hg.ptr_inv
      rw [hp] at h1
      simp only [Instr.loadAt, Instr.sureAddr, Sem.run_bind, Sem.run_pure, Result.andThen_ok] at h1
      simp only [resVar, hp, asAddr, Sem.run_bind, Sem.run_pure, Result.andThen_ok]
      exact h1
    · cases hr
theorem resultsL_ok (k : Known P B σ h H w) (hT : VRs σ T tmps.toList) : ∀ (rs : List ResultVar) (vs : List Value), resultsL P T H rs = some vs → ∃ vs', (rs.mapM (resVar tmps)).run P w = .ok vs' w ∧ VRs σ vs vs'
  | [], vs, hr => by cases hr; exact ⟨[], rfl, .nil⟩
  | r :: rs, vs, hr => by
    unfold resultsL at hr
    split at hr
    · rename_i v h1
      split at hr
      · rename_i us h2
        cases hr
        obtain ⟨v', g1, g2⟩ := resultOne_ok k hT h1
        obtain ⟨us', g3, g4⟩ := resultsL_ok k hT rs us h2
        exact ⟨v' :: us', by simp only [List.mapM_cons, Sem.run_bind, g1, Result.andThen_ok, g3, Sem.run_pure], g2.cons g4⟩
      · cases hr
    · cases hr
theorem results_eq (fn : Func) (tmps : Array Value) : results fn tmps = (do let vs ← fn.results.mapM (resVar tmps); pure (if h : vs.size = 1 then vs[0] else .tuple vs)) := by
  unfold results
  congr 1
theorem results_ok (k : Known P B σ h H w) {fn : Func} (hT : VRs σ T tmps.toList) {v : Value} (hr : resultsA P fn.results.toList T H = some v) : ∃ v', (results fn tmps).run P w = .ok v' w ∧ VR σ v v' := by
  rw [results_eq, Array.mapM_eq_mapM_toList]
  unfold resultsA at hr
  split at hr
  · rename_i r he
    obtain ⟨v', g1, g2⟩ := resultOne_ok k hT hr
    refine ⟨v', ?_, g2⟩
    rw [he]
    simp only [List.mapM_cons, List.mapM_nil, Sem.run_bind, Sem.run_map, g1, Result.andThen_ok, Sem.run_pure]
    rfl
  · rename_i hne
    split at hr
    · rename_i vs hl
      cases hr
      obtain ⟨vs', g1, g2⟩ := resultsL_ok k hT _ _ hl
      refine ⟨.tuple vs'.toArray, ?_, .tuple _ _ (by simpa using g2) .nil⟩
      simp only [Sem.run_bind, Sem.run_map, g1, Result.andThen_ok, Sem.run_pure]
      have : ¬ vs'.toArray.size = 1 := by
        intro h1
        have h2 := g2.length
        have h3 : ∀ (rs : List ResultVar) (vs : List Value), resultsL P T H rs = some vs → vs.length = rs.length := by
          intro rs
          induction rs with
          | nil => intro vs h; cases h; rfl
          | cons r rs ih =>
            intro vs h
            unfold resultsL at h
            split at h
            · split at h
              · rename_i hx; cases h; simp [ih _ hx]
              · cases h
            · cases h
        have h4 := h3 _ _ hl
        have h5 : fn.results.toList.length = 1 := by simp at h1; omega
        obtain ⟨r, hr⟩ := List.length_eq_one_iff.1 h5
        exact hne r hr
      rw [dif_neg this]
    · cases hr
end

theorem fnC_some {f : FuncId} {args : List Value} {H : Heap} {out : Out} (hr : (fnC P f).f me args H = some out) :
    ∃ fn c o1 v, P.funcs[f]? = some fn ∧ fn.body = some c ∧ (codeC P true c).f me (args ++ List.replicate (fn.ntmps - args.length) undef) H = some o1 ∧ (∀ id, o1.ex ≠ .exit id) ∧ resultsA P fn.results.toList o1.T o1.H = some v ∧ out = ⟨.ret, [v], o1.H⟩ := by
  unfold fnC at hr
  split at hr
  · rename_i fn hf
    split at hr
    · rename_i c hb
      simp only at hr
      unfold endA at hr
      split at hr
      · rename_i e T1 H1 hc
        rw [appN_eq, repl1_eq, lenN_eq] at hc
        have hf' : P.funcs[f]? = some fn := by rw [← hf]; simp
        cases e with
        | exit id => cases hr
        | normal =>
          simp only at hr
          split at hr
          · rename_i v hv; cases hr; exact ⟨fn, c, _, v, hf', hb, hc, by simp, hv, rfl⟩
          · cases hr
        | ret =>
          simp only at hr
          split at hr
          · rename_i v hv; cases hr; exact ⟨fn, c, _, v, hf', hb, hc, by simp, hv, rfl⟩
          · cases hr
      · cases hr
    · cases hr
  · cases hr

/-- the marks are come to, one by one: their blocks are shut -/
theorem leaves_ok {σ : Loc} {h : Nat → Option Obj} {H : Heap} {w : World} (fn : Func) (k0 : Known P B σ h H w) (hfl : H.floor ≤ H.next) :
    ∀ (ms : List Deferred) {τ : Loc} {h1 : Nat → Option Obj} {H1 : Heap} {w1 : World} {T : List Value} {tmps : Array Value} {v : Value}, Fresh σ H.next H1.next → Marks τ h1 H1 H.next ms → Stp B σ h H w τ h1 H1 w1 → VRs τ T tmps.toList → resultsA P fn.results.toList T H1 = some v →
      LeavesInM (Wd none) 0 P fn tmps (fun e w' => ∃ v' τ h', e = .returned v' ∧ VR τ v v' ∧ Stp B σ h H w τ h' H1 w') ms .returning w1
  | [], τ, h1, H1, w1, T, tmps, v, hfr, hm, st, hT, hres => by
    obtain ⟨v', g1, g2⟩ := results_ok (k0.next st) hT hres
    exact ⟨v', g1, v', τ, h1, rfl, g2, st⟩
  | d :: ms, τ, h1, H1, w1, T, tmps, v, hfr, hm, st, hT, hres => by
    refine ⟨by simp, .inl ?_⟩
    obtain ⟨id, c, o, s, e1, e2, e3, e4, e5, e6⟩ := hm.each d (by simp)
    have k1 := k0.next st
    have hor := k1.sim.blk id _ e3
    obtain ⟨c', o', s', q1, q2⟩ := hor
    rw [e2] at q1; cases q1
    refine ⟨c, _, e1, run_takeDeferred q2, ?_⟩
    -- the ghost is taken away
    have far : ∀ j b c' o' s', j ≠ id → h1 j = some b → τ j = some (c', o', s') → c' ≠ c := fun j b c' o' s' hne hb hc' e => by
      subst e; exact k1.sim.excl id j _ b (Ne.symm hne) e3 hb rfl _ _ _ _ _ _ e2 hc' rfl
    have hc : c < w1.heap.size := (Array.getElem?_eq_some_iff.1 q2).1
    have sim : SimO τ B (fun j => if j = id then none else h1 j) (w1.putObj c (.deferred none)) := by
      refine ⟨fun j b hb => ?_, fun j b hb hw => ?_, fun i j bi bj hij hi hj hw => ?_⟩
      · have hb : (if j = id then none else h1 j) = some b := hb
        split at hb
        · cases hb
        · rename_i hne
          have ho := k1.sim.blk j b hb
          obtain ⟨c1, o1, s1, f1⟩ := ho.loc
          exact ho.put f1 (far j b _ _ _ hne hb f1)
      · have hb : (if j = id then none else h1 j) = some b := hb
        split at hb
        · cases hb
        · exact k1.sim.own j b hb hw
      · have hi : (if i = id then none else h1 i) = some bi := hi
        have hj : (if j = id then none else h1 j) = some bj := hj
        split at hi
        · cases hi
        · split at hj
          · cases hj
          · exact k1.sim.excl i j bi bj hij hi hj hw
    have g2 : GoesO B τ h1 H1.next w1 τ (fun j => if j = id then none else h1 j) H1.next (w1.putObj c (.deferred none)) := by
      refine ⟨sim, Nat.le_refl _, fun _ _ => rfl, fun _ _ h => h, rfl, rfl, rfl, Nat.le_of_eq World.putObj_size.symm, fun x hx hno => ?_, fun x ⟨j, b, o1, s1, hb, hw, hx⟩ _ => ?_⟩
      · refine World.putObj_heap_other ?_
        rintro rfl
        exact hno ⟨id, _, o, s, e3, rfl, e2⟩
      · have hb : (if j = id then none else h1 j) = some b := hb
        split at hb
        · cases hb
        · exact ⟨j, b, o1, s1, hb, hw, hx⟩
    have st3 : Stp B σ h H w τ (fun j => if j = id then none else h1 j) H1 (w1.putObj c (.deferred none)) := by
      refine ⟨st.goes.trans g2, fun j b hb => ?_, fun j b hb => ?_, st.mo⟩
      · show (if j = id then none else h1 j) = some b
        rw [if_neg (fun e => by rw [e, e4] at hb; cases hb)]
        exact k1.sub j b hb
      · show (if j = id then none else h1 j) = some b
        by_cases hj : j = id
        · exfalso
          subst hj
          have hH : H.getO j = none := Classical.byContradiction fun e => absurd (k0.wf.lt j e) (by omega)
          unfold updO at hb
          rw [if_pos (by rw [hH, e4])] at hb
          obtain ⟨c1, o1, s1, f1⟩ := (k0.sim.blk j b hb).loc
          rw [hfr j e5 e6] at f1; cases f1
        · rw [if_neg hj]; exact st.ch j b hb
    refine leaves_ok fn k0 hfl ms hfr ⟨fun d' hd' => ?_, (List.pairwise_cons.1 hm.apart).2⟩ st3 hT hres
    obtain ⟨id', c1, o1, s1, f1, f2, f3, f4, f5, f6⟩ := hm.each d' (by simp [hd'])
    refine ⟨id', c1, o1, s1, f1, f2, ?_, f4, f5, f6⟩
    show (if id' = id then none else h1 id') = _
    rw [if_neg ?_]; exact f3
    rintro rfl
    rw [e2] at f2; cases f2
    exact (List.pairwise_cons.1 hm.apart).1 d' hd' (by rw [e1, f1])

theorem fnC_ok (hP : Good P) (hS : SelfOk P me) {f : FuncId} {args : List Value} {H H' : Heap} {ex : Ex} {v : Value} (hr : (fnC P f).f me args H = some ⟨ex, [v], H'⟩) {σ : Loc} {h : Nat → Option Obj} {w : World} {args' : Array Value} (k : Known P B σ h H w) (hfr : Fresh σ H.next H'.next) (hv : VRs σ args args'.toList) :
    (∃ fn c, P.funcs[f]? = some fn ∧ fn.body = some c) ∧ CallsIn (Wd none) 0 P f args' w (fun e w' => ∃ v' τ h', e = .returned v' ∧ VR τ v v' ∧ Stp B σ h H w τ h' H' w') := by
  obtain ⟨fn, c, o1, v1, hf, hb, hc, hx, hres, ho⟩ := fnC_some hr
  cases ho
  refine ⟨⟨fn, c, hf, hb⟩, callsIn_of_wp_marks hf hb trivial ?_⟩
  have hlen : args.length = args'.size := by have := hv.length; simpa using this
  have hT : VRs σ (args ++ List.replicate (fn.ntmps - args.length) undef) (args' ++ Array.replicate (fn.ntmps - args'.size) undef).toList := by
    rw [Array.toList_append, Array.toList_replicate, hlen]
    refine hv.append ?_
    generalize fn.ntmps - args'.size = n
    induction n with
    | zero => exact .nil
    | succ n ih => exact VR.undef.cons ih
  refine wpIn_mono (codeC_ok hP hS true c _ _ _ hc σ h w _ none (fun _ => rfl) k hfr hT) ?_
  rintro e a' w' ⟨q1, ms, τ, h', q2, qm, q3, q4⟩
  have hms : a'.defers = ms := by rw [q2]; simp
  have hfin : LeavesInM (Wd none) 0 P fn a'.tmps (fun e w' => ∃ v' τ h', e = .returned v' ∧ VR τ v v' ∧ Stp B σ h H w τ h' o1.H w') a'.defers .returning w' := by
    rw [hms]
    exact leaves_ok fn k k.fl ms hfr qm q4 q3 hres
  cases he : o1.ex with
  | exit id => exact absurd he (hx id)
  | normal => rw [he] at q1; subst q1; exact hfin
  | ret => rw [he] at q1; subst q1; exact hfin

theorem beginR_some {l : Nat} {H H' : Heap} (hr : beginR l H = some H') : ∃ r, getL H.lps l = some r ∧ r.st = .ready ∧ mark l .busy H = some H' := by
  unfold beginR at hr
  split at hr
  · rename_i r hl
    split at hr
    · rename_i hs
      refine ⟨r, hl, ?_, hr⟩
      cases h : r.st with
      | ready => rfl
      | busy => rw [h] at hs; cases hs
      | over e => rw [h] at hs; cases hs
    · cases hr
  · cases hr
theorem roundA_some {l : Nat} {args : List Value} {H : Heap} {out : Out} (hr : roundA P me l args H = some out) :
    ∃ r o1 H2 o2 H3, getL H.lps l = some r ∧ args.length = r.ps.length ∧ (codeC P false r.asg).f me (putAll r.T r.ps args) H = some o1 ∧ o1.ex = .normal ∧ beginR l o1.H = some H2 ∧ (codeC P false r.body).f me o1.T H2 = some o2 ∧ mark l (stOf o2.ex) o2.H = some H3 ∧ out = ⟨.ret, [.bool (goesOn o2.ex)], H3⟩ := by
  unfold roundA at hr
  split at hr
  case h_2 => cases hr
  case h_1 r hl =>
  split at hr
  case h_2 => cases hr
  case h_1 hlen =>
  obtain ⟨o1, h1, h2, h3⟩ := normA_some hr
  split at h3
  case h_2 => cases h3
  case h_1 H2 hb =>
  unfold endR at h3
  split at h3
  case h_2 => cases h3
  case h_1 e T3 H3 ho2 =>
  split at h3
  case h_2 => cases h3
  case h_1 H4 hm =>
  cases h3
  rw [lenN_eq, lenN_eq] at hlen
  exact ⟨r, o1, H2, _, H4, hl, Nat.eq_of_beq_eq_true hlen, h1, h2, hb, ho2, hm, rfl⟩

theorem putAll_ok {σ : Loc} : ∀ (ps : List Tmp) (T : List Value) (tmps : Array Value) (args : List Value) (args' : List Value), VRs σ T tmps.toList → VRs σ args args' →
    VRs σ (putAll T ps args) ((ps.zip args').foldl (fun tmps (x : Tmp × Value) => tmps.setIfInBounds x.1 x.2) tmps).toList
  | [], T, tmps, args, args', hT, _ => by cases args <;> exact hT
  | p :: ps, T, tmps, [], args', hT, ha => by rw [ha.nil_inv]; exact hT
  | p :: ps, T, tmps, v :: vs, args', hT, ha => by
    obtain ⟨v', r', rfl, hv, hr⟩ := ha.uncons
    show VRs σ (putAll (setN T p v) ps vs) _
    rw [List.zip_cons_cons, List.foldl_cons]
    refine putAll_ok ps _ _ vs r' ?_ hr
    rw [setN_eq, Array.toList_setIfInBounds]
    exact hT.set p hv

theorem round_ok (hP : Good P) (hS : SelfOk P me) {l : Nat} {args : List Value} {H H' : Heap} {ex : Ex} {v : Value} (hr : roundA P me l args H = some ⟨ex, [v], H'⟩) {σ : Loc} {h : Nat → Option Obj} {w : World} {args' : Array Value} {c o s : Nat} (r : Option Nat) (k : Known P B σ h H w) (hfr : Fresh σ H.next H'.next) (hv : VRs σ args args'.toList) (hσ : σ l = some (c, o, s)) :
    ∃ fn tmps asg body, (Instr.yield c args').run P w = .ok (.round c fn tmps asg body) w ∧ RoundIn (Wd r) 0 P c fn tmps asg body w (fun e w' => ∃ v' τ h', e = .returned v' ∧ VR τ v v' ∧ Stp B σ h H w τ h' H' w') := by
  obtain ⟨rc, o1, H2, o2, H3, hl, hlen, h1, h1n, hb, h2, hm, ho⟩ := roundA_some hr
  obtain ⟨e0, e1', e2'⟩ : ex = .ret ∧ v = .bool (goesOn o2.ex) ∧ H' = H3 := by cases ho; exact ⟨rfl, rfl, rfl⟩
  subst e0 e1'
  rw [e2'] at hfr ⊢
  clear ho
  obtain ⟨_, c', o', s', L, q1, q2, q3, q4⟩ := k.lrec hl
  rw [hσ] at q1; cases q1
  have hsz : args'.size = L.params.size := by
    have e1 := hv.length
    have e2 := congrArg List.length q4.ps
    simp at e1 e2
    omega
  obtain ⟨rb, hlb, hrd, hmb⟩ := beginR_some hb
  have m1 := codeC_mo hS false _ _ _ _ k.fl h1
  have m2 := mark_mo hmb
  have m3 := codeC_mo hS false _ _ _ _ (m2.wf (m1.wf k.fl)) h2
  have m4 := mark_mo hm
  have hH' : H3.next = o2.H.next := by obtain ⟨_, _, _, e⟩ := mark_some hm; rw [e]
  have hH2 : H2.next = o1.H.next := by obtain ⟨_, _, _, e⟩ := mark_some hmb; rw [e]
  refine ⟨_, _, _, _, run_yield q3 hsz, roundIn_of_wpIn trivial ?_⟩
  rw [q4.asg, q4.body]
  have hT : VRs σ (putAll rc.T rc.ps args) ((L.params.zip args').foldl (fun tmps (x : Tmp × Value) => tmps.setIfInBounds x.1 x.2) L.tmps).toList := by
    rw [← Array.foldl_toList, Array.toList_zip, q4.ps]
    exact putAll_ok _ _ _ _ _ q4.T hv
  refine wpIn_mono (codeC_ok hP hS false rc.asg _ _ _ h1 σ h w _ (some c) (fun h => by cases h) k (hfr.left (by rw [hH', ← hH2]; exact m3.le |> Nat.le_trans (Nat.le_refl _))) hT) ?_
  rintro e a1 w1 ⟨p1, ms1, τ, h3, p2, pm, p3, p4⟩
  rw [h1n] at p1
  subst p1
  have k1 := k.next p4
  have fr1 : Fresh τ o1.H.next H3.next := hfr.right p4.goes
  have frA : Fresh σ H.next o1.H.next := hfr.left (by rw [hH', ← hH2]; exact m3.le)
  obtain ⟨rb', Lb, e1, e2, e3, e4⟩ := mark_ok k1 hmb (p4.goes.mono _ _ hσ)
  rw [hlb] at e1; cases e1
  have hready : Lb.state = .ready := by have := e3.st; rw [hrd] at this; exact this.1
  obtain ⟨h4, st4⟩ := e4 .busy Lb.pending rfl
  refine ⟨_, run_beginRound e2 hready, ?_⟩
  have k2 := k1.next st4
  have fr2 : Fresh τ H2.next H3.next := by rw [hH2]; exact fr1
  have frB : Fresh τ o1.H.next H2.next := fr1.left (by rw [hH']; exact m3.le)
  refine wpIn_mono (codeC_ok hP hS false rc.body _ _ _ h2 τ h4 _ a1 (some c) (fun h => by cases h) k2 (fr2.left (by rw [hH']; exact Nat.le_refl _)) p3) ?_
  rintro e a2 w2 ⟨r1, ms2, υ, h5, r2, rm, r3, r4⟩
  have k3 := k2.next r4
  have c3 := r4.goes.mono _ _ (p4.goes.mono _ _ hσ)
  obtain ⟨rd, Ld, f1, f2, f3, f4⟩ := mark_ok k3 hm c3
  have fin : ∀ (jump : Option Code) (st' : LoopState), StR (stOf o2.ex) st' jump → st' = (if jump.isNone then .ready else .done) → (jump.isNone = goesOn o2.ex) →
      ∃ v w', (Instr.endRound c jump).run P w2 = .ok v w' ∧ (∃ v' τ h', Ending.returned v = .returned v' ∧ VR τ (.bool (goesOn o2.ex)) v' ∧ Stp B σ h H w τ h' H3 w') := by
    intro jump st' hst hst' hj
    obtain ⟨h6, st6⟩ := f4 st' jump hst
    refine ⟨_, _, run_endRound jump f2, _, υ, h6, rfl, by rw [hj]; exact VRs.bool _ .nil, ?_⟩
    rw [← hst']
    have a1 : Stp B σ h H w υ h5 o2.H w2 := (p4.trans k frA st4).trans k (hfr.left (by rw [hH']; exact m3.le)) r4
    exact a1.trans k (hfr.left (by rw [hH']; exact Nat.le_refl _)) st6
  cases he : o2.ex with
  | normal => rw [he] at r1 fin; subst r1; exact fin none .ready ⟨rfl, rfl⟩ rfl rfl
  | ret => rw [he] at r1 fin; subst r1; exact fin (some .ret) .done ⟨rfl, rfl⟩ rfl rfl
  | exit id => rw [he] at r1 fin; subst r1; exact fin (some (.exit id)) .done ⟨rfl, rfl⟩ rfl rfl

theorem step_ok (hP : Good P) (hS : SelfOk P me) : SelfOk P (step P me) := by
  refine ⟨?_, ?_, ?_, ?_⟩
  · intro t out hr hf
    cases t with
    | loop top c T H =>
      have hr : thenA ((codeC P top c).f me T H) (fun T H => me (.loop top c T H)) = some out := hr
      obtain ⟨o1, h1, h2⟩ := thenA_some hr
      have m := codeC_mo hS top c _ _ _ hf h1
      rcases h2 with ⟨_, h2⟩ | ⟨_, rfl⟩
      · exact m.trans (hS.mo _ _ h2 (m.wf hf))
      · exact m
    | call f args H =>
      have hr : (fnC P f).f me args H = some out := hr
      obtain ⟨fn, c, o1, v1, hf', hb, hc, hx, hres, rfl⟩ := fnC_some hr
      exact codeC_mo hS true c _ H o1 hf hc
    | round l args H =>
      have hr : roundA P me l args H = some out := hr
      obtain ⟨rc, o1, H2, o2, H3, hl, hlen, h1, h1n, hb, h2, hm, rfl⟩ := roundA_some hr
      obtain ⟨rb, hlb, hrd, hmb⟩ := beginR_some hb
      have m1 := codeC_mo hS false _ _ _ _ hf h1
      have m2 := mark_mo hmb
      have m3 := codeC_mo hS false _ _ _ _ (m2.wf (m1.wf hf)) h2
      exact ((m1.trans m2).trans m3).trans (mark_mo hm)
  · intro f args H ex v H' hr B σ h w args' k hfr hv
    exact fnC_ok hP hS hr k hfr hv
  · intro l args H ex v H' hr B σ h w args' c o s r k hfr hv hσ
    exact round_ok hP hS hr r k hfr hv hσ
  · obtain ⟨n, hn⟩ := hS.loop
    refine ⟨n + 1, ?_⟩
    intro top c T H out hr B σ h w a r ht k hfr hT
    have hr : thenA ((codeC P top c).f me T H) (fun T H => me (.loop top c T H)) = some out := hr
    obtain ⟨o1, h1, h2⟩ := thenA_some hr
    have m1 := codeC_mo hS top c _ _ _ k.fl h1
    show c.wpIn (Wd r) 0 P _ a w
    rcases h2 with ⟨hx, h2⟩ | ⟨hx, rfl⟩
    · have m2 : MoO o1.H out.H := hS.mo _ _ h2 (m1.wf k.fl)
      refine wpIn_mono (codeC_ok hP hS top c _ _ _ h1 σ h w a r ht k (hfr.left m2.le) hT) ?_
      rintro e a' w' ⟨q1, ms, τ, h', q2, qm, q3, q4⟩
      rw [hx] at q1
      subst q1
      show Code.roundsIn (Wd r) 0 P c (PostQ B σ h H w a.defers out) n a' w'
      exact roundsIn_mono (PostQ.trans k (hfr.left m2.le) q4 q2 qm) n a' w' (hn top c o1.T o1.H out h2 B τ h' w' a' r ht (k.next q4) (hfr.right q4.goes) q3)
    · refine wpIn_mono (codeC_ok hP hS top c _ _ _ h1 σ h w a r ht k hfr hT) ?_
      rintro e a' w' q
      have q1 := q.1
      cases he : out.ex with
      | normal => exact absurd he hx
      | exit id => rw [he] at q1; subst q1; exact q
      | ret => rw [he] at q1; subst q1; exact q

theorem run_ok (hP : Good P) : ∀ n, SelfOk P (run P n)
  | 0 => ⟨fun _ _ h => (by cases h), fun _ _ _ _ _ _ h => (by cases h), fun _ _ _ _ _ _ h => (by cases h), 0, fun _ _ _ _ _ h => (by cases h)⟩
  | n + 1 => step_ok hP (run_ok hP n)
end
end Go.Ab
