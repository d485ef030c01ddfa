/- texts of the proof, one behind the other -/
import Derived.DefersIn
import Derived.RecoverIn
import Derived.Calls
import Derived.OrdersIn
import Derived.Tactics
import Derived.Tactics2
import Derived.Test.YtdiimfnakedaoaaGreatDoorAbC
set_option linter.unusedSimpArgs false
namespace Go.Ab
open Go
variable {A A0 A1 A2 B Bc C C' Cr D H P Q T T' a0 args args' cap capt cc f first fn fo g gc gn h i i0 i1 i4 i5 ic l4 me mk ops ops4 ops5 out r0 t v w σ} {a : Act}
set_option linter.unusedVariables false
set_option linter.unusedSectionVars false
def plainC : Code → Bool
  | .skip => true
  | .region _ _ _ => true
  | .seq a b => plainC a && plainC b
  | .cond _ a b => plainC a && plainC b
  | .ret => true
  | _ => false
section
variable [Base]
def PostP (B : Nat) (σ : Loc) (h : Nat → Option Obj) (H : Heap) (w : World) (ds : List Deferred) (out : Out) : Exit → Act → World → Prop :=
  fun e a' w' => e = exOf out.ex ∧ a'.defers = ds ∧ ∃ τ h', VRs τ out.T a'.tmps.toList ∧ Stp B σ h H w τ h' out.H w'
theorem codeP_ok (hP : Good P) (hS : SelfOk P me) (top : Bool) : ∀ (c : Code), plainC c = true → ∀ (T : List Value) (H : Heap) (out : Out), (codeC P top c).f me T H = some out →
    ∀ (σ : Loc) (h : Nat → Option Obj) (w : World) (a : Act) (r : Option Nat), Known P B σ h H w → Fresh σ H.next out.H.next → VRs σ T a.tmps.toList → c.wpIn (Wd r) 0 P (PostP B σ h H w a.defers out) a w := by
  intro c
  induction c with
  | skip => intro _ T H out hr σ h w a r k _ hT; cases hr; exact wpIn_skip ⟨rfl, rfl, σ, h, hT, Stp.refl k⟩
  | ret => intro _ T H out hr σ h w a r k _ hT; cases hr; exact wpIn_ret ⟨rfl, rfl, σ, h, hT, Stp.refl k⟩
  | region id ops d =>
    intro _ T H out hr σ h w a r k hfr hT
    cases d with
    | true => exact drawA_okQ hP hS ops id r k hfr hT hr fun hx τ h' a' w' q1 q2 q3 => ⟨by rw [hx]; rfl, q2, τ, h', q1, q3⟩
    | false =>
      refine wpIn_region ?_
      have hm := opsA_mo hS ops.toList _ _ _ _ k.fl hr
      rw [List.range_eq_range', ← Array.length_toList]
      exact opsA_ok hP hS ops r ops.toList 0 (by simp) σ h T H w a out k hfr hT hr fun τ h' a' w' q1 q2 q3 => ⟨by rw [hm.2]; rfl, q2, τ, h', q1, q3⟩
  | seq x y ix iy =>
    intro hp T H out hr σ h w a r k hfr hT
    have hp : (plainC x && plainC y) = true := hp
    rw [Bool.and_eq_true] at hp
    obtain ⟨o1, h1, h2⟩ := thenA_some hr
    have m1 := codeC_mo hS top x _ _ _ k.fl h1
    refine wpIn_seq ?_
    rcases h2 with ⟨hx, h2⟩ | ⟨hx, rfl⟩
    · have m2 := codeC_mo hS top y _ _ _ (m1.wf k.fl) h2
      refine wpIn_mono (ix hp.1 _ _ _ h1 σ h w a r k (hfr.left m2.le) hT) ?_
      rintro e a' w' ⟨q1, q2, τ, h', q3, q4⟩
      rw [hx] at q1
      subst q1
      refine wpIn_mono (iy hp.2 _ _ _ h2 τ h' w' a' r (k.next q4) (hfr.right q4.goes) q3) ?_
      rintro e a2 w2 ⟨g1, g2, υ, h2', g3, g4⟩
      exact ⟨g1, g2.trans q2, υ, h2', g3, q4.trans k (hfr.left m2.le) g4⟩
    · refine wpIn_mono (ix hp.1 _ _ _ h1 σ h w a r k hfr hT) ?_
      rintro e a' w' q
      have q1 := q.1
      cases he : out.ex with
      | normal => simp_all
      | exit id => rw [he] at q1; subst q1; exact q
      | ret => rw [he] at q1; subst q1; exact q
  | cond c x y ix iy =>
    intro hp T H out hr σ h w a r k hfr hT
    have hp : (plainC x && plainC y) = true := hp
    have hr : ifA me ((evC c).g T) (codeC P top x) (codeC P top y) T H = some out := hr
    unfold ifA at hr
    grind[wpIn_cond,ev_bool]
  | _ => intro hp; cases hp
theorem opsA_pre {P : Program} {B : Nat} {me : Self} {Q : Exit → Act → World → Prop} (hP : Good P) (hS : SelfOk P me) (ops : Array Oper) (all : List Oper) (r : Option Nat) (tl : List Oper) : ∀ (l : List Oper) (i : Nat), ops.toList.drop i = l ++ tl → (∀ o ∈ l, o.guard = none) →
    ∀ (σ : Loc) (h : Nat → Option Obj) (T : List Value) (H : Heap) (w : World) (a : Act) (out : Out), Known P B σ h H w → Fresh σ H.next out.H.next → VRs σ T a.tmps.toList → opsA P me all l T H = some out →
    (∀ τ h' a' w', VRs τ out.T a'.tmps.toList → a'.defers = a.defers → Stp B σ h H w τ h' out.H w' → wpOpsIn (Wd r) 0 P ops Q (List.range' (i + l.length) tl.length) a' w') → wpOpsIn (Wd r) 0 P ops Q (List.range' i (l.length + tl.length)) a w
  | [], i, hl, hg, σ, h, T, H, w, a, out, k, hfr, hT, hr, hq => by
    cases hr
    have := hq σ h a w hT rfl (Stp.refl k)
    simp_all
  | o :: l, i, hl, hg, σ, h, T, H, w, a, out, k, hfr, hT, hr, hq => by
    have ho : ops[i]? = some o := by
      have : (ops.toList.drop i)[0]? = some o := by grind
      grind
    have hl' : ops.toList.drop (i + 1) = l ++ tl := by
      have : (ops.toList.drop i).drop 1 = l ++ tl := by grind
      grind[List.drop_drop]
    have hr' : opF1 P me o ((wantedC all o.guard).f T) T H (opsA P me all l) = some out := hr
    rw [hg o (.head _)] at hr'
    have hr' : opF1 P me o true T H (opsA P me all l) = some out := hr'
    unfold opF1 at hr'
    have e : (o :: l).length + tl.length = (l.length + tl.length) + 1 := by grind
    rw [e, List.range'_succ]
    simp only [wpOpsIn, ho]
    have hw : Region.wanted o (yielded ops a.tmps) = true := by simp_all[Region.wanted]
    rw [if_pos hw]
    simp only at hr'
    split at hr'
    · rename_i v H1 hs
      have m1 := stepC_mo hS k.fl hs
      have m2 := opsA_mo hS all l _ H1 out (m1.wf k.fl) hr'
      refine stepC_ok hP hS o k (hfr.left m2.1.le) hT hs ?_
      intro v' τ h' w' hv st
      obtain ⟨p1, p2⟩ := put_ok (hT.mono st.goes.mono) o.dst hv
      refine opsA_pre hP hS ops all r tl l (i + 1) hl' (fun x hx => hg x (List.mem_cons_of_mem _ hx)) τ h' _ H1 w' _ out (k.next st) (hfr.right st.goes) p1 hr' ?_
      intro υ h2 a' w2 q1 q2 q3
      rw [show i + 1 + l.length = i + (o :: l).length by omega]
      exact hq υ h2 a' w2 q1 (q2.trans p2) (st.trans k (hfr.left m2.1.le) q3)
    grind
theorem putT_len (T : List Value) (d : Option Tmp) (v : Value) : (putT T d v).length = T.length := by
  cases d with
  | none => rfl
  | some d => show (setN T d v).length = _; simp_all[setN_eq]
theorem opsA_len (all : List Oper) : ∀ (l : List Oper) (T : List Value) (H : Heap) (out : Out), opsA P me all l T H = some out → out.T.length = T.length
  | [], T, H, out, hr => by cases hr; rfl
  | o :: l, T, H, out, hr => by
    have hr : opF1 P me o ((wantedC all o.guard).f T) T H (opsA P me all l) = some out := hr
    unfold opF1 at hr
    split at hr
    · split at hr
      · rw [opsA_len all l _ _ _ hr, putT_len]
      · cases hr
    · rw [opsA_len all l _ _ _ hr, putT_len]
theorem putT_nth {d : Option Tmp} {i : Nat} (h : d ≠ some i) : nth (putT T d v) i = nth T i := by
  cases d with
  | none => rfl
  | some d =>
    show nth (setN T d v) i = nth T i
    simp_all[setN_eq,nth_eq]
theorem opsD_nth (i : Nat) (all : List Oper) : ∀ (l : List (Oper × Plan)) (T : List Value) (H : Heap) (rs : List Rec) (out : Out), (∀ o ∈ l, o.1.dst ≠ some i) → opsD P me all l T H rs = some out → nth out.T i = nth T i
  | [], T, H, rs, out, _, hr => by cases hr; rfl
  | o :: l, T, H, rs, out, hd, hr => by
    have hr : opF2 P me o.1 o.2 ((wantedC all o.1.guard).f T) T H rs (opsD P me all l) = some out := hr
    have h1 := hd o (.head _)
    have h2 := fun x hx => hd x (List.mem_cons_of_mem _ hx)
    unfold opF2 at hr
    split at hr
    · split at hr
      · split at hr
        · rw [opsD_nth i all l _ _ _ _ h2 hr, putT_nth h1]
        · cases hr
      · cases hr
    · rw [opsD_nth i all l _ _ _ _ h2 hr, putT_nth h1]
theorem init_ok (hv : VRs σ args args'.toList) (m : Nat) : VRs σ (args ++ List.replicate (m - args.length) undef) (args' ++ Array.replicate (m - args'.size) undef).toList := by
  have hlen : args.length = args'.size := by have := hv.length; omega
  rw [Array.toList_append, Array.toList_replicate, hlen]
  refine hv.append ?_
  generalize m - args'.size = n
  induction n with
  | zero => exact .nil
  | succ n ih => exact VR.undef.cons ih
theorem eval_tmp (hT : VRs σ T a.tmps.toList) (i : Nat) : VR σ (nth T i) (a.eval (.tmp i)) := by
  have h2 := hT.getD i
  have h3 : a.tmps.toList.getD i undef = a.tmps.getD i undef := by simp_all
  rw [h3, ← nth_eq] at h2
  exact h2
theorem defer_ok (ho : ops[i]? = some D) (hg : D.guard = none) (hD : D.op = .defer cc) (hdst : D.dst = none)
    (hc : cc.callee = .value fo) (hf : a.eval fo = .func (.func g) first cap) (hq : Q .normal { a with defers := ⟨.fn (.func g) cap, first ++ cc.args.map a.eval⟩ :: a.defers } w) : wpOpsIn (Wd none) 0 P ops Q (List.range' i 1) a w := by
  show wpOpsIn (Wd none) 0 P ops Q [i] a w
  simp only [wpOpsIn, ho]
  have hw : Region.wanted D (yielded ops a.tmps) = true := by simp_all[Region.wanted]
  rw [if_pos hw]
  refine ⟨fun _ _ => trivial, ?_⟩
  have e : (D.semAt (Wd none).round a.eval).run P w = .ok (.defer ⟨.fn (.func g) cap, first ++ cc.args.map a.eval⟩) w := by
    simp_all[Oper.semAt_none,execOp,resolve,Deferred.ofValue]
  rw [e, Oper.uponIn_defer, hdst]
  exact hq
theorem then2 {x : KF} {y : KF} (hr : thenA (x.f me T H) (fun T H => y.f me T H) = some out) (hn : ∀ o, x.f me T H = some o → o.ex = .normal) : ∃ o1, x.f me T H = some o1 ∧ o1.ex = .normal ∧ y.f me o1.T o1.H = some out := by
  grind[thenA_some]
end
section
variable [Base] [Orc]
theorem evs_tmps (hT : VRs σ T a.tmps.toList) : ∀ (l : List Operand), (∀ x ∈ l, ∃ i, x = .tmp i) → VRs σ (evs l T) (l.map a.eval)
  | [], _ => .nil
  | x :: l, h => by
    obtain ⟨i, rfl⟩ := h x (.head _)
    exact (eval_tmp hT i).cons (evs_tmps hT l fun y hy => h y (List.mem_cons_of_mem _ hy))
theorem evs_keep : ∀ (l : List Operand), (∀ x ∈ l, ∃ i, x = .tmp i ∧ nth T' i = nth T i) → evs l T' = evs l T
  | [], _ => rfl
  | x :: l, h => by
    obtain ⟨i, rfl, hi⟩ := h x (.head _)
    show nth T' i :: evs l T' = nth T i :: evs l T
    rw [hi, evs_keep l fun y hy => h y (List.mem_cons_of_mem _ hy)]
theorem seqP (hP : Good P) (hS : SelfOk P me) (hp : plainC A = true) (hc : (codeC P true (.seq A C')).f me T H = some out)
    (k : Known P B σ h H w) (hfr : Fresh σ H.next out.H.next) (hT : VRs σ T a.tmps.toList) (hd : a.defers = [])
    (early : out.ex ≠ .normal → ∀ τ h' a' w', VRs τ out.T a'.tmps.toList → a'.defers = [] → Stp B σ h H w τ h' out.H w' → Q (exOf out.ex) a' w')
    (early' : (∃ id, out.ex = .exit id) → False)
    (next : ∀ o1 : Out, (codeC P true C').f me o1.T o1.H = some out → MoO H o1.H → MoO o1.H out.H → ∀ τ h' a' w', VRs τ o1.T a'.tmps.toList → a'.defers = [] → Stp B σ h H w τ h' o1.H w' → Cr.wpIn (Wd none) 0 P Q a' w') :
    (Code.seq A Cr).wpIn (Wd none) 0 P Q a w := by
  have hr := hc
  obtain ⟨o1, h1, h2⟩ := thenA_some hr
  have m1 := codeC_mo hS true A _ _ _ k.fl h1
  refine wpIn_seq ?_
  rcases h2 with ⟨hx, h2⟩ | ⟨hx, rfl⟩
  · have m2 := codeC_mo hS true C' _ _ _ (m1.wf k.fl) h2
    refine wpIn_mono (codeP_ok hP hS true A hp _ _ _ h1 σ h w a none k (hfr.left m2.le) hT) ?_
    rintro e a' w' ⟨q1, q2, τ, h', q3, q4⟩
    rw [hx] at q1
    subst q1
    exact next o1 h2 m1 m2 τ h' a' w' q3 (q2.trans hd) q4
  · refine wpIn_mono (codeP_ok hP hS true A hp _ _ _ h1 σ h w a none k hfr hT) ?_
    rintro e a' w' ⟨q1, q2, τ, h', q3, q4⟩
    have := early hx τ h' a' w' q3 (q2.trans hd) q4
    subst q1
    cases he : out.ex with
    | normal => simp_all
    | exit id => simp_all
    | ret => rw [he] at this; exact this
theorem bod_tail (hP : Good P) 
    (hf : P.funcs[f]? = some fn) (hb : fn.body = some (.seq A0 (.seq A1 (.seq A2 (.seq (.region i4 ops4 false) (.seq (.region i5 ops5 true) .ret))))))
    (p0 : plainC A0 = true) (p1 : plainC A1 = true) (p2 : plainC A2 = true) (h4 : ops4.toList = l4 ++ [D]) (hg4 : ∀ o ∈ l4, o.guard = none)
    (hD : D.op = .defer cc) (hcc : cc.callee = .value (.func g)) (hDg : D.guard = none) (hDd : D.dst = none)
    (hC : C.op = .call cc) (hCg : C.guard = none) (hCd : C.dst = none)
    (hargs : ∀ x ∈ cc.args.toList, ∃ i, x = .tmp i ∧ ∀ o ∈ plans P ops5.toList, o.1.dst ≠ some i)
    (hg : P.funcs[g]? = some gn) (hgb : gn.body = some gc) (hgp : plainC gc = true) (htab : ∀ args H, Orc.tab g args H = none) (hbod : Orc.bod g = none) :
    BodGood P f (.seq A0 (.seq A1 (.seq A2 (.seq (.region i4 l4.toArray false) (.seq (.region i5 ops5 true) (.seq (.region ic #[C] false) .ret)))))) := by
  intro n hA args H ex v H' hr B σ h w args' k hfr hv
  have hS := hA n (Nat.le_refl _)
  obtain ⟨fn', o1, v1, hf', hc, hx, hres, ho, _⟩ := fnW_some hr
  rw [hf] at hf'
  cases hf'
  cases ho
  refine ⟨⟨fn, _, hf, hb⟩, callsIn_of_wp_defers hf hb trivial ?_⟩
  have hT := init_ok hv fn.ntmps
  generalize args ++ List.replicate (fn.ntmps - args.length) undef = T0 at *
  have ear : ∀ {σ' : Loc} {h' : Nat → Option Obj} {H0 : Heap} {w0 : World}, Known P B σ' h' H0 w0 → Stp B σ h H w σ' h' H0 w0 → Fresh σ H.next H0.next → o1.ex ≠ .normal → ∀ τ h2 a' w', VRs τ o1.T a'.tmps.toList → a'.defers = [] → Stp B σ' h' H0 w0 τ h2 o1.H w' →
      bodyPostDIn (Wd none) 0 P fn (fun e w' => ∃ v' τ h', e = .returned v' ∧ VR τ v v' ∧ Stp B σ h H w τ h' o1.H w') (exOf o1.ex) a' w' := by
    intro σ' h' H0 w0 k0 s0 f0 hne τ h2 a' w' q3 q2 q4
    have k1 := k0.next q4
    have hfin : LeavesIn (Wd none) 0 P fn a'.tmps (fun e w' => ∃ v' τ h', e = .returned v' ∧ VR τ v v' ∧ Stp B σ h H w τ h' o1.H w') a'.defers .returning w' := by
      rw [q2]
      obtain ⟨v', hr1, hr2⟩ := results_ok k1 q3 hres
      exact ⟨v', hr1, v', τ, h2, rfl, hr2, s0.trans k f0 q4⟩
    cases he : o1.ex with
    | normal => simp_all
    | exit id => simp_all
    | ret => exact hfin
  refine seqP hP hS p0 hc k hfr hT rfl (ear k (Stp.refl k) (fun i a b => absurd b (Nat.not_lt.2 a))) (fun ⟨id, he⟩ => hx id he) ?_
  clear hc hT
  intro oa hc ma ma' τ0 h0 a0 w0 hT hd0 s0
  have k0 := k.next s0
  have f0 : Fresh σ H.next oa.H.next := hfr.left ma'.le
  have r0 := hfr.right s0.goes
  refine seqP hP hS p1 hc k0 r0 hT hd0 (ear k0 s0 f0) (fun ⟨id, he⟩ => hx id he) ?_
  clear hc hT
  intro ob hc mb mb' τ1 h1 a1 w1 hT hd1 s1
  have k1 := k0.next s1
  have f1 : Fresh τ0 oa.H.next ob.H.next := r0.left mb'.le
  have r1 := r0.right s1.goes
  have t1 := s0.trans k f0 s1
  have g1 : Fresh σ H.next ob.H.next := hfr.left mb'.le
  refine seqP hP hS p2 hc k1 r1 hT hd1 (ear k1 t1 g1) (fun ⟨id, he⟩ => hx id he) ?_
  clear hc hT
  intro o2 hc m2 m2' τ2 h2 a2 w2 hT hd2 s2
  have k2 := k1.next s2
  have r2 := r1.right s2.goes
  have t2 := t1.trans k g1 s2
  have g2 : Fresh σ H.next o2.H.next := hfr.left m2'.le
  obtain ⟨o3, h3, h3x, hc⟩ := then2 (x := codeC P true (.region i4 l4.toArray false)) (y := codeC P true (.seq (.region i5 ops5 true) (.seq (.region ic #[C] false) .ret))) hc (fun o ho => (opsA_mo hS _ _ o2.T o2.H o k2.fl ho).2)
  have h3o : opsA P (runO P n) l4 l4 o2.T o2.H = some o3 := by
    have h3' : opsA P (runO P n) l4.toArray.toList l4.toArray.toList o2.T o2.H = some o3 := h3
    omega
  have m3 := codeC_mo hS true _ _ _ _ k2.fl h3
  have m3' := codeC_mo hS true _ _ _ _ (m3.wf k2.fl) hc
  refine wpIn_seq ?_
  refine wpIn_region ?_
  rw [List.range_eq_range']
  have hsz : ops4.size = l4.length + [D].length := by grind[List.length_append]
  rw [hsz]
  have f3 : Fresh τ2 o2.H.next o3.H.next := r2.left m3'.le
  refine opsA_pre hP hS ops4 l4 none [D] l4 0 (by grind) hg4 τ2 h2 o2.T o2.H w2 a2 o3 k2 f3 hT h3o ?_
  intro τ3 h3' a3 w3 hT3 hd3 s3
  have k3 := k2.next s3
  have r3 := r2.right s3.goes
  have t3 := t2.trans k g2 s3
  have g3 : Fresh σ H.next o3.H.next := hfr.left m3'.le
  refine defer_ok ?_ hDg hD hDd hcc (cap := #[]) rfl ?_
  · have : ops4.toList[0 + l4.length]? = some D := by grind
    grind
  show (Code.seq (.region i5 ops5 true) .ret).wpIn (Wd none) 0 P _ _ w3
  obtain ⟨o5, h5, h5x, hc⟩ := then2 (x := codeC P true (.region i5 ops5 true)) (y := codeC P true (.seq (.region ic #[C] false) .ret)) hc (fun o ho => by
    have ho : drawA P (runO P n) ops5.toList o3.T o3.H = some o := ho
    unfold drawA at ho
    split at ho
    · have : ∀ (l : List (Oper × Plan)) (T : List Value) (H : Heap) (rs : List Rec), opsD P (runO P n) ops5.toList l T H rs = some o → o.ex = .normal := by
        intro l
        induction l with
        | nil => intro T H rs h; cases h; rfl
        | cons x l ih =>
          intro T H rs h
          have h : opF2 P (runO P n) x.1 x.2 ((wantedC ops5.toList x.1.guard).f T) T H rs (opsD P (runO P n) ops5.toList l) = some o := h
          unfold opF2 at h
          grind
      grind
    grind)
  have h5d : ∃ rs, opsD P (runO P n) ops5.toList (plans P ops5.toList) o3.T o3.H rs = some o5 := by
    have h5' : drawA P (runO P n) ops5.toList o3.T o3.H = some o5 := h5
    grind[drawA]
  obtain ⟨rs5, h5d⟩ := h5d
  have m5 := codeC_mo hS true _ _ _ _ (k3.fl) h5
  have m5' := codeC_mo hS true _ _ _ _ (m5.wf k3.fl) hc
  have f5 : Fresh τ3 o3.H.next o5.H.next := r3.left m5'.le
  obtain ⟨o6, h6, h6x, hc⟩ := then2 (x := codeC P true (.region ic #[C] false)) (y := codeC P true .ret) hc (fun o ho => (opsA_mo hS [C] [C] o5.T o5.H o (m5.wf k3.fl) ho).2)
  have hcr : o1 = ⟨.ret, o6.T, o6.H⟩ := by
    have : some (⟨.ret, o6.T, o6.H⟩ : Out) = some o1 := hc
    grind
  have h6o : opF1 P (runO P n) C ((wantedC [C] C.guard).f o5.T) o5.T o5.H (opsA P (runO P n) [C] []) = some o6 := h6
  rw [hCg] at h6o
  have h6o : opF1 P (runO P n) C true o5.T o5.H (opsA P (runO P n) [C] []) = some o6 := h6o
  unfold opF1 at h6o
  simp only at h6o
  split at h6o
  case h_2 => cases h6o
  case h_1 v6 H6 hs6 =>
  have e6 : o6 = ⟨.normal, o5.T, H6⟩ := by
    have : some (⟨.normal, putT o5.T C.dst v6, H6⟩ : Out) = some o6 := h6o
    rw [hCd] at this
    cases this; rfl
  subst e6
  subst hcr
  have hcall : ∃ ex, runO P n (.call g (evs cc.args.toList o5.T) o5.H) = some ⟨ex, [v6], H6⟩ := by
    unfold stepC at hs6
    split at hs6
    · rw [hC] at hs6
      unfold stepC0 at hs6
      simp only [hcc] at hs6
      obtain ⟨tg, ex, ht, hrun⟩ := callOut_some hs6
      have ht' : some (Tgt.fn g (appN [] (appN (evs cc.args.toList o5.T) []))) = some tg := ht
      cases ht'
      refine ⟨ex, ?_⟩
      have hrun : runO P n (.call g (appN [] (appN (evs cc.args.toList o5.T) [])) o5.H) = some ⟨ex, [v6], H6⟩ := hrun
      grind[appN_eq]
    grind
  obtain ⟨ex6, hcall⟩ := hcall
  cases n with
  | zero => cases hcall
  | succ m =>
  have hcall : (match Orc.tab g (evs cc.args.toList o5.T) o5.H with | some v => some (⟨.ret, [v], o5.H⟩ : Out) | none => match Orc.bod g with | some c => fnW P g c (runO P m) (evs cc.args.toList o5.T) o5.H | none => (fnC P g).f (runO P m) (evs cc.args.toList o5.T) o5.H) = some ⟨ex6, [v6], H6⟩ := hcall
  rw [htab, hbod] at hcall
  simp only at hcall
  obtain ⟨gn', gc', og, vg, hg', hgb', hcg, hxg, hresg, hog⟩ := fnC_some hcall
  rw [hg] at hg'
  cases hg'
  rw [hgb] at hgb'
  cases hgb'
  cases hog
  have hSm := hA m (Nat.le_succ m)
  have keep : evs cc.args.toList o5.T = evs cc.args.toList o3.T := evs_keep _ fun x hx => by
    grind[opsD_nth]
  have hva : VRs τ3 (evs cc.args.toList o3.T) (cc.args.map a3.eval).toList := by
    grind[Array.toList_map,evs_tmps]
  refine wpIn_seq ?_
  refine wpIn_mono (codeP_ok hP hS true (.region i5 ops5 true) rfl _ _ _ h5 τ3 h3' w3 { a3 with defers := _ :: a3.defers } none k3 f5 hT3) ?_
  rintro e a5 w5 ⟨q1, q2, τ5, h5', q3, q4⟩
  rw [h5x] at q1
  subst q1
  refine wpIn_ret ?_
  have k5 := k3.next q4
  have t5 := t3.trans k g3 q4
  have g5 : Fresh σ H.next o5.H.next := hfr.left m5'.le
  have r5 := r3.right q4.goes
  show LeavesIn (Wd none) 0 P fn a5.tmps _ a5.defers .returning w5
  rw [q2]
  show LeavesIn (Wd none) 0 P fn a5.tmps _ (_ :: a3.defers) .returning w5
  rw [hd3, hd2]
  refine leavesIn_cons (by simp) (fun h => by cases h) (f := g) (args := (#[] ++ cc.args.map a3.eval) ++ #[]) ?_ (fun _ _ => trivial) ?_
  · exact callFunc_enter hP hg hgb _ _
  have hva5 : VRs τ5 (evs cc.args.toList o5.T) ((#[] ++ cc.args.map a3.eval) ++ #[]).toList := by
    rw [keep]
    have := hva.mono q4.goes.mono
    grind
  have hTg := init_ok hva5 gn.ntmps
  refine (callsDIn_of_wp (R := fun e w' => ∃ v0 τ h', e = .returned v0 ∧ Stp B τ5 h5' o5.H w5 τ h' og.H w') hg hgb trivial ?_).mono ?_
  · refine wpIn_mono (codeP_ok hP hSm true gc hgp _ _ _ hcg τ5 h5' w5 ⟨_, []⟩ none k5 r5 hTg) ?_
    rintro e a6 w6 ⟨g1', g2', τ6, h6', g3', g4'⟩
    have k6 := k5.next g4'
    obtain ⟨v', hr1, hr2⟩ := results_ok k6 g3' hresg
    cases he : og.ex with
    | exit id => simp_all
    | normal => rw [he] at g1'; subst g1'; exact ⟨g2', v', hr1, v', τ6, h6', rfl, g4'⟩
    | ret => rw [he] at g1'; subst g1'; exact ⟨g2', v', hr1, v', τ6, h6', rfl, g4'⟩
  · rintro e u' w6 ⟨rfl, v0, τ6, h6', rfl, hst6⟩
    have k6 := k5.next hst6
    obtain ⟨v', hr1, hr2⟩ := results_ok k6 (q3.mono hst6.goes.mono) hres
    exact ⟨v', hr1, v', τ6, h6', rfl, hr2, t5.trans k g5 hst6⟩
end
end Go.Ab
namespace Go.Ab
open Go
def tailT : Code → Code
  | .seq A0 (.seq A1 (.seq A2 (.seq (.region i4 ops4 false) (.seq r5 .ret)))) =>
    match ops4.toList.reverse with
    | D :: l => match D.op with
      | .defer cc => .seq A0 (.seq A1 (.seq A2 (.seq (.region i4 l.reverse.toArray false) (.seq r5 (.seq (.region i4 #[{ D with op := .call cc, dst := none }] false) .ret)))))
      | _ => .skip
    | [] => .skip
  | _ => .skip
def guardT (o : Oper) (x : Tmp) (t a : TypeId) (k : Tmp) (yes no : Code) : Code :=
  .seq (.region 0 #[{ o with dst := some k, op := .typeAssert (.tmp x) t a true, guard := none }, { o with dst := some (k + 1), op := .extract (.tmp k) 1, guard := none }] false)
    (.cond (.tmp (k + 1)) (.seq (.region 0 #[{ o with dst := some k, op := .assign (.const (.tuple #[])), guard := none }, { o with dst := some (k + 1), op := .assign (.const (.tuple #[])), guard := none }] false) yes) no)
def heedT (t a3 a7 : TypeId) (k : Tmp) : Code → Code
  | .seq r0 (.seq (.region i1 ops1 d1) (.seq (.seq r2 (.cond c1 A3 .skip)) (.seq Bd (.seq (.seq r7 (.seq r8 (.cond c3 R9 .skip))) r10)))) =>
    match ops1.toList with
    | mk :: _ => .seq r0 (.seq (.region i1 #[mk] d1) (.seq (.seq r2 (.cond c1 (guardT mk 1 t a3 k A3 R9) .skip)) (.seq Bd (guardT mk 1 t a7 k (.seq (.seq r7 (.seq r8 (.cond c3 R9 .skip))) r10) R9))))
    | [] => .skip
  | _ => .skip
def followT (t a : TypeId) (k : Tmp) : Code → Code
  | .seq r0 (.seq (.region i1 ops1 d1) (.seq X1 (.seq A (.seq (.seq r9 (.cond c R .skip)) r11)))) =>
    match ops1.toList with
    | mk :: _ => .seq r0 (.seq (.region i1 #[mk] d1) (.seq X1 (guardT mk 1 t a k (.seq A (.seq (.seq r9 (.cond c R .skip)) r11)) R)))
    | [] => .skip
  | _ => .skip
def surr (P : Program) (f : FuncId) (T : Code → Code) : Code := match P.funcs.toList[f]? with
  | some fn => match fn.body with
    | some c => T c
    | none => .skip
  | none => .skip
end Go.Ab
namespace Go.Ab
open Go
variable {P d e i j m s t td v w x} {a : Act}
set_option linter.unusedVariables false
set_option linter.unusedSectionVars false
theorem put_ne (h : i ≠ j) : (a.put (some i) v).eval (.tmp j) = a.eval (.tmp j) := by
  simp_all[Act.put,Act.eval]
theorem put_self {i : Tmp} (h : i < a.tmps.size) : (a.put (some i) v).eval (.tmp i) = v := by
  simp_all[Act.put,Act.eval]
theorem put_size : (a.put d v).tmps.size = a.tmps.size := by
  cases d <;> simp [Act.put]
theorem put_defers : (a.put d v).defers = a.defers := by
  cases d <;> rfl
theorem below_alloc (w : World) (o : Go.Obj) : RowKit.Below w.heap.size w (w.alloc o) :=
  ⟨rfl, rfl, rfl, by simp_all, fun k hk => by show (w.heap.push o)[k]? = _; grind⟩
theorem panic_run {a : TypeId} (h : P.underlying P.rt.typeAssertionError = some (.pointer e)) :
    ∃ pv o, (runtimePanic (α := Value) (.typeAssertion s d a m)).run P w = .halt (.panic (.iface P.rt.typeAssertionError pv)) (w.alloc o) := by
  refine ⟨.pointer (some ⟨w.heap.size, 0, none⟩), ?_⟩
  simp only [runtimePanic, Sem.run_bind, run_program, elemOf, run_underlying h, Result.andThen_ok, run_newObj_alloc]
  exact ⟨_, rfl⟩
theorem assert_run {a : TypeId} (h : P.underlying P.rt.typeAssertionError = some (.pointer e)) (ha : P.underlying a = some td) (hn : ∀ ms, td ≠ .interface ms)
    (hx : x = .nilIface ∨ ∃ u v, x = .iface u v ∧ u ≠ a) : ∃ pv o, (Instr.typeAssert x t a false).run P w = .halt (.panic (.iface P.rt.typeAssertionError pv)) (w.alloc o) := by
  have hf : ∀ s d m, ∃ pv o, (runtimePanic (.typeAssertion s d a m)).run P w = .halt (.panic (.iface P.rt.typeAssertionError pv)) (w.alloc o) := fun s d m => panic_run h
  rcases hx with rfl | ⟨u, v, rfl, hu⟩
  · simp_all[Instr.typeAssert,run_underlying]
  simp_all[Instr.typeAssert,run_underlying]
theorem put_congr {b : Act} (hs : a.tmps.size = b.tmps.size) (h : a.eval (.tmp t) = b.eval (.tmp t)) : (a.put d v).eval (.tmp t) = (b.put d v).eval (.tmp t) := by
  cases d with
  | none => exact h
  | some i =>
    grind[put_self,Act.put,Act.eval,put_ne]
theorem wpOps_sub {ops : Array Oper} {Kp : Tmp → Bool} {Q : Exit → List Deferred → World → Prop} 
    (hops : ∀ (i : Nat) (o : Oper), ops[i]? = some o → o.guard = none ∧ (∀ cs b, o.op ≠ .select cs b) ∧ ∀ x ∈ o.op.operands, ∀ t, x = .tmp t → Kp t = true) :
    ∀ (l : List Nat) (a b : Act) (w : World), (∀ t, Kp t = true → a.eval (.tmp t) = b.eval (.tmp t)) → a.tmps.size = b.tmps.size → a.defers = b.defers →
      wpOpsIn (Wd none) 0 P ops (fun e a w => Q e a.defers w) l a w → wpOpsIn (Wd none) 0 P ops (fun e a w => Q e a.defers w) l b w := by
  intro l
  induction l with
  | nil => intro a b w _ _ hd h; show Q _ b.defers w; rw [← hd]; exact h
  | cons i l ih =>
    intro a b w hk hs hd h
    unfold wpOpsIn at h ⊢
    cases ho : ops[i]? with
    | none => grind
    | some o =>
      simp only [ho] at h ⊢
      obtain ⟨hg, hsel, hop⟩ := hops i o ho
      have hw : ∀ c : Act, Region.wanted o (yielded ops c.tmps) = true := fun c => by simp_all[Region.wanted]
      rw [if_pos (hw _)] at h ⊢
      refine ⟨fun _ _ => trivial, ?_⟩
      have h2 := h.2
      have e : (o.semAt (Wd none).round b.eval) = (o.semAt (Wd none).round a.eval) := by
        refine execOp_congr o hsel fun x hx => ?_
        cases x with
        | tmp t => grind
        | _ => rfl
      rw [e]
      have hn : ∀ (d : Option Tmp) (v : Value) (w' : World), wpOpsIn (Wd none) 0 P ops (fun e a w => Q e a.defers w) l (a.put d v) w' → wpOpsIn (Wd none) 0 P ops (fun e a w => Q e a.defers w) l (b.put d v) w' := fun d v w' hh =>
        ih _ _ w' (fun t ht => put_congr hs (hk t ht)) (by simp_all[put_size]) (by simp_all[put_defers]) hh
      generalize (o.semAt (Wd none).round a.eval).run P w = r at h2
      cases r with
      | ok x w' =>
        cases x <;> simp only [Oper.uponIn] at h2 ⊢ <;>
          first
            | exact hn _ _ _ h2
            | exact ⟨h2.1, CallsIn.mono h2.2 (fun e w'' he => by grind)⟩
            | exact ⟨h2.1, RowsIn.mono h2.2 (fun _ _ he => hn _ _ _ he)⟩
            | exact ⟨h2.1, RoundIn.mono h2.2 (fun e w'' he => by grind)⟩
            | (rename_i d; exact ih ({ a with defers := d :: a.defers }.put o.dst undef) ({ b with defers := d :: b.defers }.put o.dst undef) w' (fun t ht => put_congr (a := { a with defers := d :: a.defers }) (b := { b with defers := d :: b.defers }) hs (hk t ht)) (by simp_all[put_size]) (by simp_all[put_defers]) h2)
            | exact h2
      | halt x w' => cases x <;> simp only [Oper.uponIn] at h2 ⊢ <;> first | exact h2 | simp_all
end Go.Ab
namespace Go.Ab
open Go
variable {A A' B C C' H P R9 c h k me s w w' x x' y y' σ}
set_option linter.unusedVariables false
set_option linter.unusedSectionVars false
section
variable [Base]
noncomputable def laysR (P : Program) (i : Tmp) (ops : Array Oper) : Bool → Bool
  | true => (plans P ops.toList).any fun o => o.1.dst == some i
  | false => ops.toList.any fun o => o.dst == some i
noncomputable def laysB (P : Program) (i : Tmp) : Code → Bool
  | .region _ ops d => laysR P i ops d
  | .seq a b => laysB P i a || laysB P i b
  | .cond _ a b => laysB P i a || laysB P i b
  | _ => false
theorem opsA_nth (i : Nat) (all : List Oper) : ∀ (l : List Oper) (T : List Value) (H : Heap) (out : Out), (∀ o ∈ l, o.dst ≠ some i) → opsA P me all l T H = some out → nth out.T i = nth T i
  | [], T, H, out, _, hr => by cases hr; rfl
  | o :: l, T, H, out, hd, hr => by
    have hr : opF1 P me o ((wantedC all o.guard).f T) T H (opsA P me all l) = some out := hr
    have h1 := hd o (.head _)
    have h2 := fun x hx => hd x (List.mem_cons_of_mem _ hx)
    unfold opF1 at hr
    split at hr
    · split at hr
      · rw [opsA_nth i all l _ _ _ h2 hr, putT_nth h1]
      · cases hr
    · rw [opsA_nth i all l _ _ _ h2 hr, putT_nth h1]
theorem opsD_len (all : List Oper) : ∀ (l : List (Oper × Plan)) (T : List Value) (H : Heap) (rs : List Rec) (out : Out), opsD P me all l T H rs = some out → out.T.length = T.length ∧ out.ex = .normal
  | [], T, H, rs, out, hr => by cases hr; exact ⟨rfl, rfl⟩
  | o :: l, T, H, rs, out, hr => by
    have hr : opF2 P me o.1 o.2 ((wantedC all o.1.guard).f T) T H rs (opsD P me all l) = some out := hr
    unfold opF2 at hr
    split at hr
    · split at hr
      · split at hr
        · obtain ⟨h1, h2⟩ := opsD_len all l _ _ _ _ hr; exact ⟨by rw [h1, putT_len], h2⟩
        · cases hr
      · cases hr
    · obtain ⟨h1, h2⟩ := opsD_len all l _ _ _ _ hr; exact ⟨by rw [h1, putT_len], h2⟩
theorem codeC_len (top : Bool) : ∀ (c : Code), plainC c = true → ∀ (T : List Value) (H : Heap) (out : Out), (codeC P top c).f me T H = some out → out.T.length = T.length := by
  intro c
  induction c with
  | skip => intro _ T H out hr; cases hr; rfl
  | ret => intro _ T H out hr; cases hr; rfl
  | region id ops d =>
    intro _ T H out hr
    cases d with
    | true =>
      have hr : drawA P me ops.toList T H = some out := hr
      grind[drawA,opsD_len]
    | false => exact opsA_len _ _ _ _ _ hr
  | seq a b ia ib =>
    intro hp T H out hr
    have hp : (plainC a && plainC b) = true := hp
    grind[codeC,thenA_some]
  | cond c a b ia ib =>
    intro hp T H out hr
    have hp : (plainC a && plainC b) = true := hp
    have hr : ifA me ((evC c).g T) (codeC P top a) (codeC P top b) T H = some out := hr
    unfold ifA at hr
    grind
  | _ => intro hp; cases hp
theorem codeC_nth (top : Bool) (i : Tmp) : ∀ (c : Code), plainC c = true → laysB P i c = false → ∀ (T : List Value) (H : Heap) (out : Out), (codeC P top c).f me T H = some out → nth out.T i = nth T i := by
  intro c
  induction c with
  | skip => intro _ _ T H out hr; cases hr; rfl
  | ret => intro _ _ T H out hr; cases hr; rfl
  | region id ops d =>
    intro _ hd T H out hr
    cases d with
    | true =>
      have hr : drawA P me ops.toList T H = some out := hr
      have hd : ((plans P ops.toList).any fun o => o.1.dst == some i) = false := hd
      grind[drawA,opsD_nth]
    | false =>
      have hd : (ops.toList.any fun o => o.dst == some i) = false := hd
      refine opsA_nth i _ _ _ _ _ (fun o ho h => ?_) hr
      grind
  | seq a b ia ib =>
    intro hp hd T H out hr
    have hp : (plainC a && plainC b) = true := hp
    have hd : (laysB P i a || laysB P i b) = false := hd
    rw [Bool.and_eq_true] at hp
    grind[codeC,thenA_some]
  | cond c a b ia ib =>
    intro hp hd T H out hr
    have hp : (plainC a && plainC b) = true := hp
    have hd : (laysB P i a || laysB P i b) = false := hd
    rw [Bool.and_eq_true] at hp
    rw [Bool.or_eq_false_iff] at hd
    have hr : ifA me ((evC c).g T) (codeC P top a) (codeC P top b) T H = some out := hr
    unfold ifA at hr
    grind
  | _ => intro hp; cases hp
theorem stp_below (k : Known P B σ h H w) (hb : RowKit.Below w.heap.size w w') : Stp B σ h H w σ h H w' :=
  ⟨⟨k.sim.below hb, Nat.le_refl _, fun _ _ => rfl, fun _ _ h => h, hb.os, hb.tape, hb.output, hb.size, fun c hc _ => hb.block c hc, fun _ h _ => h⟩, k.sub, fun id b hb => by rwa [updO_refl] at hb, MoO.refl H⟩
def Gd (k : Nat) (T : List Value) : Prop := nth T k = undef ∧ nth T (k + 1) = undef ∧ k + 1 < T.length
def PanX (P : Program) (me : Self) (s : Nat) (R9 : Code) (B : Nat) (σ : Loc) (h : Nat → Option Obj) (H : Heap) (w : World) (ds : List Deferred) (T : List Value) (out : Out) : Exit → Act → World → Prop :=
  fun e a' w' => ∃ u pv τ h1 H1 T1, e = .panic [{ v := .iface u pv, recovered := false }] ∧ a'.defers = ds ∧ Stp B σ h H w τ h1 H1 w' ∧ MoO H1 out.H ∧ nth T1 s = nth T s ∧ T1.length = T.length ∧ (codeC P true R9).f me T1 H1 = some out
def PostX (P : Program) (me : Self) (s : Nat) (R9 : Code) (B : Nat) (σ : Loc) (h : Nat → Option Obj) (H : Heap) (w : World) (ds : List Deferred) (T : List Value) (out : Out) : Exit → Act → World → Prop :=
  fun e a' w' => PostP B σ h H w ds out e a' w' ∨ PanX P me s R9 B σ h H w ds T out e a' w'
def SimX (P : Program) (me : Self) (s k : Nat) (R9 C' C : Code) : Prop :=
  ∀ (T : List Value) (H : Heap) (out : Out), Gd k T → H.floor ≤ H.next → (codeC P true C').f me T H = some out → (out.ex = .normal → Gd k out.T ∧ nth out.T s = nth T s ∧ out.T.length = T.length) ∧
    ∀ (B : Nat) (σ : Loc) (h : Nat → Option Obj) (w : World) (a : Act), Known P B σ h H w → Fresh σ H.next out.H.next → VRs σ T a.tmps.toList → C.wpIn (Wd none) 0 P (PostX P me s R9 B σ h H w a.defers T out) a w
theorem SimX.plain {s : Nat} {k : Nat} (hP : Good P) (hS : SelfOk P me) (hp : plainC A = true) (hs : laysB P s A = false) (h0 : laysB P k A = false) (h1 : laysB P (k + 1) A = false) : SimX P me s k R9 A A := by
  intro T H out hG hf hr
  refine ⟨fun _ => ?_, fun B σ h w a kn hfr hT => wpIn_mono (codeP_ok hP hS true A hp T H out hr σ h w a none kn hfr hT) fun e a' w' h => .inl h⟩
  have hl := codeC_len true A hp T H out hr
  exact ⟨⟨(codeC_nth true k A hp h0 _ _ _ hr).trans hG.1, (codeC_nth true (k + 1) A hp h1 _ _ _ hr).trans hG.2.1, by rw [hl]; exact hG.2.2⟩, codeC_nth true s A hp hs _ _ _ hr, hl⟩
theorem SimX.cond (hx : SimX P me s k R9 x' x) (hy : SimX P me s k R9 y' y) : SimX P me s k R9 (.cond c x' y') (.cond c x y) := by
  intro T H out hG hf hr
  have hr : ifA me ((evC c).g T) (codeC P true x') (codeC P true y') T H = some out := hr
  unfold ifA at hr
  split at hr
  · rename_i t hv
    cases t with
    | true =>
      obtain ⟨h1, h2⟩ := hx T H out hG hf hr
      grind[wpIn_cond,ev_bool]
    | false =>
      obtain ⟨h1, h2⟩ := hy T H out hG hf hr
      grind[wpIn_cond,ev_bool]
  grind
theorem SimX.seq (hS : SelfOk P me) (hR : ∀ T H o, (codeC P true R9).f me T H = some o → o.ex = .ret) (hA : SimX P me s k R9 A' A) (hC : SimX P me s k R9 C' C) : SimX P me s k R9 (.seq A' C') (.seq A C) := by
  intro T H out hG hf hr
  obtain ⟨o1, h1, h2⟩ := thenA_some hr
  have m1 := codeC_mo hS true A' _ _ _ hf h1
  obtain ⟨a1, a2⟩ := hA T H o1 hG hf h1
  rcases h2 with ⟨hx, h2⟩ | ⟨hx, rfl⟩
  · obtain ⟨g1, g2, g3⟩ := a1 hx
    have hf1 := m1.wf hf
    have m2 := codeC_mo hS true C' _ _ _ hf1 h2
    obtain ⟨c1, c2⟩ := hC o1.T o1.H out g1 hf1 h2
    refine ⟨fun hn => ?_, fun B σ h w a kn hfr hT => ?_⟩
    · simp_all
    · refine wpIn_seq (wpIn_mono (a2 B σ h w a kn (hfr.left m2.le) hT) ?_)
      rintro e a' w' (⟨q1, q2, τ, h', q3, q4⟩ | ⟨u, pv, τ, h1', H1, T1, p1, p2, p3, p4, p5, p6, p7⟩)
      · rw [hx] at q1
        subst q1
        refine wpIn_mono (c2 B τ h' w' a' (kn.next q4) (hfr.right q4.goes) q3) ?_
        rintro e a2' w2 (⟨r1, r2, υ, h2', r3, r4⟩ | ⟨u, pv, υ, h1', H1, T1, p1, p2, p3, p4, p5, p6, p7⟩)
        · exact .inl ⟨r1, r2.trans q2, υ, h2', r3, q4.trans kn (hfr.left m2.le) r4⟩
        · exact .inr ⟨u, pv, υ, h1', H1, T1, p1, p2.trans q2, q4.trans kn (hfr.left m2.le) p3, p4, p5.trans g2, p6.trans g3, p7⟩
      grind
  · refine ⟨fun hn => absurd hn hx, fun B σ h w a kn hfr hT => wpIn_seq (wpIn_mono (a2 B σ h w a kn hfr hT) ?_)⟩
    intro e a' w' hq
    cases e with
    | normal =>
      rcases hq with ⟨q1, _⟩ | ⟨_, _, _, _, _, _, p1, _⟩
      · cases he : out.ex with
        | normal => simp_all
        | exit id => rw [he] at q1; cases q1
        | ret => rw [he] at q1; cases q1
      grind
    | exit id => exact hq
    | goto l => exact hq
    | ret => exact hq
    | panic ch => exact hq
    | outgrown => exact hq
def SimE (P : Program) (me : Self) (s k : Nat) (R9 C' C : Code) : Prop :=
  ∀ (T : List Value) (H : Heap) (out : Out), Gd k T → H.floor ≤ H.next → (codeC P true C').f me T H = some out →
    ∀ (B : Nat) (σ : Loc) (h : Nat → Option Obj) (w : World) (a : Act), Known P B σ h H w → Fresh σ H.next out.H.next → VRs σ T a.tmps.toList → C.wpIn (Wd none) 0 P (PostX P me s R9 B σ h H w a.defers T out) a w
theorem SimX.e (h : SimX P me s k R9 C' C) : SimE P me s k R9 C' C := fun T H out hG hf hr => (h T H out hG hf hr).2
theorem SimE.plain (hP : Good P) (hS : SelfOk P me) (hp : plainC A = true) : SimE P me s k R9 A A := fun T H out hG hf hr B σ h w a kn hfr hT => wpIn_mono (codeP_ok hP hS true A hp T H out hr σ h w a none kn hfr hT) fun e a' w' h => .inl h
theorem SimE.seq (hS : SelfOk P me) (hR : ∀ T H o, (codeC P true R9).f me T H = some o → o.ex = .ret) (hA : SimX P me s k R9 A' A) (hC : SimE P me s k R9 C' C) : SimE P me s k R9 (.seq A' C') (.seq A C) := by
  intro T H out hG hf hr
  obtain ⟨o1, h1, h2⟩ := thenA_some hr
  have m1 := codeC_mo hS true A' _ _ _ hf h1
  obtain ⟨a1, a2⟩ := hA T H o1 hG hf h1
  rcases h2 with ⟨hx, h2⟩ | ⟨hx, rfl⟩
  · obtain ⟨g1, g2, g3⟩ := a1 hx
    have hf1 := m1.wf hf
    have m2 := codeC_mo hS true C' _ _ _ hf1 h2
    have c2 := hC o1.T o1.H out g1 hf1 h2
    intro B σ h w a kn hfr hT
    refine wpIn_seq (wpIn_mono (a2 B σ h w a kn (hfr.left m2.le) hT) ?_)
    rintro e a' w' (⟨q1, q2, τ, h', q3, q4⟩ | ⟨u, pv, τ, h1', H1, T1, p1, p2, p3, p4, p5, p6, p7⟩)
    · rw [hx] at q1
      subst q1
      refine wpIn_mono (c2 B τ h' w' a' (kn.next q4) (hfr.right q4.goes) q3) ?_
      rintro e a2' w2 (⟨r1, r2, υ, h2', r3, r4⟩ | ⟨u, pv, υ, h1', H1, T1, p1, p2, p3, p4, p5, p6, p7⟩)
      · exact .inl ⟨r1, r2.trans q2, υ, h2', r3, q4.trans kn (hfr.left m2.le) r4⟩
      · exact .inr ⟨u, pv, υ, h1', H1, T1, p1, p2.trans q2, q4.trans kn (hfr.left m2.le) p3, p4, p5.trans g2, p6.trans g3, p7⟩
    grind
  · intro B σ h w a kn hfr hT
    refine wpIn_seq (wpIn_mono (a2 B σ h w a kn hfr hT) ?_)
    intro e a' w' hq
    cases e with
    | normal =>
      rcases hq with ⟨q1, _⟩ | ⟨_, _, _, _, _, _, p1, _⟩
      · cases he : out.ex with
        | normal => simp_all
        | exit id => rw [he] at q1; cases q1
        | ret => rw [he] at q1; cases q1
      grind
    | exit id => exact hq
    | goto l => exact hq
    | ret => exact hq
    | panic ch => exact hq
    | outgrown => exact hq
end
end Go.Ab
namespace Go.Ab
open Go
variable {A C H P Q R9 T a e15 harm i id j m me n next no ops out p t td tt v v' v1 v2 w yes σ} {o : Oper} {y x s k : Nat}
set_option linter.unusedVariables false
set_option linter.unusedSectionVars false
section
variable [Base]
theorem assert_op (ho : o.op = .typeAssert (.tmp y) t a false) (h15 : P.underlying P.rt.typeAssertionError = some (.pointer e15)) (ha : P.underlying a = some td) (hn : ∀ ms, td ≠ .interface ms) 
    (hx : A.eval (.tmp y) = .nilIface ∨ ∃ u v, A.eval (.tmp y) = .iface u v ∧ u ≠ a) (hq : ∀ u pv ob, Q (.panic [{ v := .iface u pv, recovered := false }]) A (w.alloc ob)) : o.wpIn (Wd none) 0 P A w next Q := by
  refine ⟨fun _ _ => trivial, ?_⟩
  obtain ⟨pv, ob, hr⟩ := assert_run (t := t) (w := w) h15 ha hn hx
  have e : (o.semAt (Wd none).round A.eval).run P w = .halt (.panic (.iface P.rt.typeAssertionError pv)) (w.alloc ob) := by
    simp_all[Oper.semAt_none,execOp]
  rw [e]
  exact hq _ _ _
def Oth (a : TypeId) (v : Value) : Prop := v = .nilIface ∨ ∃ u z, v = .iface u z ∧ u ≠ a
theorem Oth.rel (h : Oth a v) (hv : VR σ v v') : Oth a v' := by
  rcases h with rfl | ⟨u, z, rfl, hu⟩
  · cases hv; exact .inl rfl
  · cases hv; exact .inr ⟨_, _, rfl, hu⟩
def Pan (P : Program) (me : Self) (s k x : Nat) (a tt : TypeId) (A : Code) : Prop :=
  ∀ (B : Nat) (σ : Loc) (h : Nat → Option Obj) (T : List Value) (H : Heap) (w : World) (ac : Act), Known P B σ h H w → VRs σ T ac.tmps.toList → k + 1 < T.length → Oth a (nth T x) → (∃ v, (loadC P tt).f (nth T s) H = some (v, H)) → ∀ (Q : Exit → Act → World → Prop),
    (∀ a' w' u pv τ h', a'.defers = ac.defers → Stp B σ h H w τ h' H w' → Q (.panic [{ v := .iface u pv, recovered := false }]) a' w') → A.wpIn (Wd none) 0 P Q ac w
theorem Pan.seq (h : Pan P me s k x a tt A) : Pan P me s k x a tt (.seq A C) := by
  intro B σ h0 T H w ac k1 hT hk ho hl Q hq
  exact wpIn_seq (h B σ h0 T H w ac k1 hT hk ho hl _ fun a' w' u pv τ h' h1 h2 => hq a' w' u pv τ h' h1 h2)
theorem fresh_self : Fresh σ n n := fun i h1 h2 => absurd h2 (Nat.not_lt.2 h1)
theorem want_none {A : Act} (h : o.guard = none) : Region.wanted o (yielded ops A.tmps) = true := by grind[Region.wanted]
theorem step_move (ho : o.op = .move (.tmp x)) : (stepC P o.op).f me T H = some (nth T x, H) := by rw [ho]; rfl
theorem step_load (ho : o.op = .load tt (.tmp s)) : (stepC P o.op).f me T H = (loadC P tt).f (nth T s) H := by rw [ho]; rfl
theorem nth_setN (h : i < T.length) : nth (setN T i v) i = v := by
  simp_all[setN_eq,nth_eq]
theorem nth_setN_ne (h : i ≠ j) : nth (setN T i v) j = nth T j := putT_nth (d := some i) (fun e => h (by grind))
theorem VRs.size {A : Act} (h : VRs σ T A.tmps.toList) : A.tmps.size = T.length := by
  have := h.length; simp_all
theorem Pan.ord {m : Oper} (hP : Good P) (hS : SelfOk P me) (h15 : P.underlying P.rt.typeAssertionError = some (.pointer e15)) (ha : P.underlying a = some td) (hn : ∀ ms, td ≠ .interface ms)
    (h0 : ops[0]? = some m) (h1 : ops[1]? = some o) (hm : m.op = .move (.tmp x)) (hmd : m.dst = some y) (hmg : m.guard = none) (ho : o.op = .typeAssert (.tmp y) t a false) (hog : o.guard = none) (hy : y ≤ k) : Pan P me s k x a tt (.region id ops false) := by
  intro B σ h T H w ac k1 hT hk hoth hl Q hq
  refine wpIn_region ?_
  obtain ⟨n, hsz⟩ : ∃ n, ops.size = n + 2 := by
    have : 1 < ops.size := by
      grind
    exact ⟨ops.size - 2, by omega⟩
  rw [hsz, List.range_eq_range', List.range'_succ, List.range'_succ]
  simp only [wpOpsIn, h0]
  rw [if_pos (want_none hmg)]
  refine stepC_ok hP hS m k1 fresh_self hT (step_move hm) ?_
  intro v' τ h' w' hv st
  simp only [h1]
  rw [if_pos (want_none hog)]
  have hsize := VRs.size hT
  have k2 := k1.next st
  refine assert_op ho h15 ha hn ?_ ?_
  · have hps := put_self (v := v') (show @LT.lt Nat _ y ac.tmps.size by omega)
    rw [hmd, hps]
    exact hoth.rel hv
  · intro u pv ob
    exact hq _ _ u pv τ h' put_defers (st.trans k1 fresh_self (stp_below k2 (below_alloc _ _)))
noncomputable def panB (ops : Array Oper) (p m : Nat) (harm : List Nat) : Nat → Array Bool → Bool
  | 0, _ => false
  | n + 1, ls => (! (Region.ready .any ops ls).isEmpty) && (Region.ready .any ops ls).all fun i => if i == p then ls.getD m false else harm.contains i && panB ops p m harm n (ls.setIfInBounds i true)
theorem panB_ok {P : Program} {me : Self} {a : TypeId} {t : TypeId} {e15 : TypeId} {td : TypeDesc} {tt : TypeId} {ops : Array Oper} {p : Nat} {m : Nat} {harm : List Nat} {Q : Exit → Act → World → Prop} {T0 : List Value} {H : Heap} (hP : Good P) (hS : SelfOk P me) (h15 : P.underlying P.rt.typeAssertionError = some (.pointer e15)) (ha : P.underlying a = some td) (hn : ∀ ms, td ≠ .interface ms)
    (h1 : ops[p]? = some o) (ho : o.op = .typeAssert (.tmp y) t a false) (hog : o.guard = none) (hy : y ≤ k)
    (hh : ∀ i ∈ harm, ∃ (o' : Oper) (d : Nat), ops[i]? = some o' ∧ o'.guard = none ∧ o'.dst = some d ∧ d ≠ s ∧ d ≠ x ∧ ((o'.op = .move (.tmp x) ∧ d = y ∧ i = m) ∨ (o'.op = .load tt (.tmp s) ∧ d ≠ y ∧ i ≠ m)))
    (hoth : Oth a (nth T0 x)) (hl : ∃ v, (loadC P tt).f (nth T0 s) H = some (v, H)) (hk : k + 1 < T0.length) :
    ∀ (fuel : Nat) (ls : Array Bool) (T : List Value) (B : Nat) (σ : Loc) (h : Nat → Option Obj) (w : World) (ac : Act), panB ops p m harm fuel ls = true → Known P B σ h H w → VRs σ T ac.tmps.toList → T.length = T0.length → nth T s = nth T0 s → nth T x = nth T0 x → (ls.getD m false = true → nth T y = nth T0 x) →
      (∀ a' w' u pv τ h', a'.defers = ac.defers → Stp B σ h H w τ h' H w' → Q (.panic [{ v := .iface u pv, recovered := false }]) a' w') → wpAnyIn (Wd none) 0 P .any ops Q fuel ls ac w
  | 0, ls, T, B, σ, h, w, ac, hb, _, _, _, _, _, _, _ => by cases hb
  | fuel + 1, ls, T, B, σ, h, w, ac, hb, k1, hT, hlen, hs, hx, hm, hq => by
    unfold panB at hb
    rw [Bool.and_eq_true] at hb
    obtain ⟨hb1, hb2⟩ := hb
    refine ⟨fun h0 => (by simp_all), fun i hi => ?_⟩
    have hb := List.all_eq_true.1 hb2 i hi
    by_cases hip : i = p
    · subst hip
      rw [if_pos (by simp)] at hb
      unfold wpOpIn
      simp only [h1]
      rw [if_pos (want_none hog)]
      refine assert_op ho h15 ha hn ?_ ?_
      · have := (eval_tmp hT y)
        rw [hm hb] at this
        exact hoth.rel this
      · intro u pv ob
        exact hq _ _ u pv σ h rfl (stp_below k1 (below_alloc _ _))
    · rw [if_neg (by simp_all), Bool.and_eq_true] at hb
      obtain ⟨o', d, g1, g2, g3, g4, g5, g6⟩ := hh i (by simp_all)
      unfold wpOpIn
      simp only [g1]
      rw [if_pos (want_none g2)]
      obtain ⟨v, hv, hvm⟩ : ∃ v, (stepC P o'.op).f me T H = some (v, H) ∧ (i = m → v = nth T0 x) := by
        rcases g6 with ⟨e1, _, _⟩ | ⟨e1, _, e3⟩
        · exact ⟨_, step_move e1, fun _ => hx⟩
        · obtain ⟨v, hv⟩ := hl
          grind[step_load]
      refine stepC_ok hP hS o' k1 fresh_self hT hv ?_
      intro v' τ h' w' hvv st
      rw [g3]
      obtain ⟨p1, p2⟩ := put_ok (hT.mono st.goes.mono) (some d) hvv
      refine panB_ok hP hS h15 ha hn h1 ho hog hy hh hoth hl hk fuel _ (putT T (some d) v) B τ h' w' _ hb.2 (k1.next st) p1 (by simp_all[putT_len]) (by simp_all[putT_nth]) (by simp_all[putT_nth]) ?_ ?_
      · intro hls
        by_cases him : i = m
        · rw [hvm him]
          have hdy : d = y := by
            omega
          subst hdy
          exact nth_setN (by omega)
        simp_all[putT_nth]
      · intro a' w2 u pv υ h2 e1 e2
        exact hq a' w2 u pv υ h2 (e1.trans p2) (st.trans k1 fresh_self e2)
theorem below_drawn (w : World) (n : Nat) : RowKit.Below w.heap.size w { w with drawn := n } := ⟨rfl, rfl, rfl, Nat.le_refl _, fun _ _ => rfl⟩
theorem Pan.any (hP : Good P) (hS : SelfOk P me) (h15 : P.underlying P.rt.typeAssertionError = some (.pointer e15)) (ha : P.underlying a = some td) (hn : ∀ ms, td ≠ .interface ms)
    (h1 : ops[p]? = some o) (ho : o.op = .typeAssert (.tmp y) t a false) (hog : o.guard = none) (hy : y ≤ k)
    (hh : ∀ i ∈ harm, ∃ (o' : Oper) (d : Nat), ops[i]? = some o' ∧ o'.guard = none ∧ o'.dst = some d ∧ d ≠ s ∧ d ≠ x ∧ ((o'.op = .move (.tmp x) ∧ d = y ∧ i = m) ∨ (o'.op = .load tt (.tmp s) ∧ d ≠ y ∧ i ≠ m)))
    (hb : panB ops p m harm ops.size (Array.replicate ops.size false) = true) : Pan P me s k x a tt (.region id ops true) := by
  intro B σ h T H w ac k1 hT hk hoth hl Q hq
  refine wpIn_region_any hP.mixed ?_
  have st := stp_below k1 (below_drawn w (w.drawn + 1))
  refine panB_ok hP hS h15 ha hn h1 ho hog hy hh hoth hl hk _ _ T B σ h _ ac hb (k1.next st) hT rfl rfl rfl ?_ ?_
  · intro hls
    rw [Array.getD_eq_getD_getElem?, Array.getElem?_replicate] at hls
    grind
  · intro a' w2 u pv τ h2 e1 e2
    exact hq a' w2 u pv τ h2 e1 (st.trans k1 fresh_self e2)
theorem set4 (h : Gd k T) : setN (setN (setN (setN T k v1) (k + 1) v2) k undef) (k + 1) undef = T := by
  obtain ⟨h1, h2, h3⟩ := h
  rw [nth_eq, List.getD_eq_getElem?_getD] at h1 h2
  rw [List.getElem?_eq_getElem (by omega)] at h2
  simp only [setN_eq]
  refine List.ext_getElem (by simp) fun i hi1 hi2 => ?_
  grind
theorem guard_some (hG : Gd k T) (ha : P.underlying a = some td) (hn : ∀ ms, td ≠ .interface ms) (hr : (codeC P true (guardT o x t a k yes no)).f me T H = some out) :
    ((codeC P true yes).f me T H = some out) ∨ (Oth a (nth T x) ∧ ∃ T1, (∀ i, i ≠ k → i ≠ k + 1 → nth T1 i = nth T i) ∧ T1.length = T.length ∧ (codeC P true no).f me T1 H = some out) := by
  obtain ⟨h1, h2, h3⟩ := hG
  obtain ⟨oa, hoa, hoax, hr⟩ := then2 hr (fun o1 ho1 => by
    have ho1 : opF1 P me _ true T H (fun T H => opF1 P me _ true T H (fun T H => some ⟨.normal, T, H⟩)) = some o1 := ho1
    grind[opF1])
  have hoa : opF1 P me _ true T H (fun T H => opF1 P me { o with dst := some (k + 1), op := .extract (.tmp k) 1, guard := none } true T H (fun T H => some ⟨.normal, T, H⟩)) = some oa := hoa
  unfold opF1 at hoa
  simp only at hoa
  split at hoa
  case h_2 => cases hoa
  case h_1 v H1 hs1 =>
  split at hoa
  case h_2 => cases hoa
  case h_1 b H2 hs2 =>
  cases hoa
  have hs1 : withH H ((typeAssertC P a true).f (nth T x)) = some (v, H1) := hs1
  have hta : (typeAssertC P a true).f = assertOk a (zeroB P a) := by
    simp_all[typeAssertC]
  rw [hta] at hs1
  have hext : ∀ (z : Value) (c : Bool), v = .tuple #[z, .bool c] → b = .bool c ∧ H2 = H1 := by
    intro z c hv
    subst hv
    have hs2 : (match nth (setN T k (.tuple #[z, .bool c])) k with | .tuple vs => withH H1 (atN vs.toList 1) | _ => none) = some (b, H2) := hs2
    rw [nth_setN (by omega)] at hs2
    have hs2 : some (Value.bool c, H1) = some (b, H2) := hs2
    simp_all
  have hr2 : ifA me (nth (setN (setN T k v) (k + 1) b) (k + 1)) (codeC P true (.seq (.region 0 #[{ o with dst := some k, op := .assign (.const (.tuple #[])), guard := none }, { o with dst := some (k + 1), op := .assign (.const (.tuple #[])), guard := none }] false) yes)) (codeC P true no) (setN (setN T k v) (k + 1) b) H2 = some out := hr
  rw [nth_setN (by simp_all[setN_eq])] at hr2
  clear hr
  have hno : ∀ z, v = .tuple #[z, .bool false] → H1 = H → ∃ T1, (∀ i, i ≠ k → i ≠ k + 1 → nth T1 i = nth T i) ∧ T1.length = T.length ∧ (codeC P true no).f me T1 H = some out := by
    intro z hv hH
    obtain ⟨rfl, rfl⟩ := hext _ _ hv
    subst hH
    exact ⟨_, fun i e1 e2 => by simp_all[nth_setN_ne,Ne.symm], by simp_all[setN_eq], hr2⟩
  have hz : ∀ (c : Option Value), withH H (c.map fun z => Value.tuple #[z, .bool false]) = some (v, H1) → ∃ z, v = .tuple #[z, .bool false] ∧ H1 = H := by
    intro c hc
    cases c with
    | none => cases hc
    | some z => cases hc; simp_all
  cases hx : nth T x with
  | nilIface =>
    rw [hx] at hs1
    obtain ⟨z, hv, hH⟩ := hz _ hs1
    exact .inr ⟨.inl rfl, hno z hv hH⟩
  | iface u z =>
    rw [hx] at hs1
    have hs1 : withH H (if Nat.beq u a then some (.tuple #[z, .bool true]) else (zeroB P a).map fun z => .tuple #[z, .bool false]) = some (v, H1) := hs1
    by_cases hu : u = a
    · subst hu
      rw [if_pos (Nat.beq_refl u)] at hs1
      left
      have hs1 := hs1
      cases hs1
      obtain ⟨rfl, rfl⟩ := hext _ _ rfl
      have hr3 : (codeC P true yes).f me (setN (setN (setN (setN T k (.tuple #[z, .bool true])) (k + 1) (.bool true)) k undef) (k + 1) undef) H2 = some out := hr2
      rw [set4 ⟨h1, h2, h3⟩] at hr3
      exact hr3
    · rw [if_neg (by simp_all)] at hs1
      obtain ⟨z', hv, hH⟩ := hz _ hs1
      exact .inr ⟨.inr ⟨u, z, rfl, hu⟩, hno z' hv hH⟩
  | _ => rw [hx] at hs1; cases hs1
theorem SimX.guard (hP : Good P) (hS : SelfOk P me) (hR : ∀ T H o, (codeC P true R9).f me T H = some o → o.ex = .ret) (hRl : ∀ T H o, (codeC P true R9).f me T H = some o → ∃ v, (loadC P tt).f (nth T s) H = some (v, H))
    (ha : P.underlying a = some td) (hn : ∀ ms, td ≠ .interface ms) (hp : plainC A = true) (hs : laysB P s A = false) (h0 : laysB P k A = false) (h1 : laysB P (k + 1) A = false) (hsk : s < k) (hpan : Pan P me s k x a tt A) : SimX P me s k R9 (guardT o x t a k A R9) A := by
  intro T H out hG hf hr
  rcases guard_some hG ha hn hr with hy | ⟨hoth, T1, hT1, hlen, hno⟩
  · exact SimX.plain hP hS hp hs h0 h1 T H out hG hf hy
  · refine ⟨fun hx => (by grind), fun B σ h w ac kn hfr hT => ?_⟩
    obtain ⟨v, hv⟩ := hRl _ _ _ hno
    have hns := hT1 s (by omega) (by omega)
    exact hpan B σ h T H w ac kn hT hG.2.2 hoth ⟨v, by simp_all⟩ _ fun a' w' u pv τ h' e1 e2 => .inr ⟨u, pv, τ, h', H, T1, rfl, e1, e2, codeC_mo hS true R9 _ _ _ hf hno, hns, hlen, hno⟩
theorem SimE.guard (hP : Good P) (hS : SelfOk P me) (hR : ∀ T H o, (codeC P true R9).f me T H = some o → o.ex = .ret) (hRl : ∀ T H o, (codeC P true R9).f me T H = some o → ∃ v, (loadC P tt).f (nth T s) H = some (v, H))
    (ha : P.underlying a = some td) (hn : ∀ ms, td ≠ .interface ms) (hp : plainC A = true) (hsk : s < k) (hpan : Pan P me s k x a tt A) : SimE P me s k R9 (guardT o x t a k A R9) A := by
  intro T H out hG hf hr
  rcases guard_some hG ha hn hr with hy | ⟨hoth, T1, hT1, hlen, hno⟩
  · exact SimE.plain hP hS hp T H out hG hf hy
  · intro B σ h w ac kn hfr hT
    obtain ⟨v, hv⟩ := hRl _ _ _ hno
    have hns := hT1 s (by omega) (by omega)
    exact hpan B σ h T H w ac kn hT hG.2.2 hoth ⟨v, by simp_all⟩ _ fun a' w' u pv τ h' e1 e2 => .inr ⟨u, pv, τ, h', H, T1, rfl, e1, e2, codeC_mo hS true R9 _ _ _ hf hno, hns, hlen, hno⟩
end
end Go.Ab
namespace Go.Ab
open Go
variable {H H' P T a b c d f kv l me out s t t7 ts tt v v0}
set_option linter.unusedVariables false
set_option linter.unusedSectionVars false
section
variable [Base]
structure Hd (P : Program) (tt t7 f ts : Nat) (kv : Value) (s b c d : Nat) (l : List Oper) : Prop where
  ex : ∃ o1 o2 o3 o4 : Oper, l = [o1, o2, o3, o4] ∧ (o1.op = .load tt (.tmp s) ∧ o1.dst = some b ∧ o1.guard = none) ∧ (o2.op = .nilCheck (.tmp b) ∧ o2.dst = some c ∧ o2.guard = none) ∧ (o3.op = .fieldAddr t7 (.tmp c) f ∧ o3.dst = some d ∧ o3.guard = none) ∧ (o4.op = .store ts (.tmp d) (.const kv) ∧ o4.dst = none ∧ o4.guard = none)
  kv : operandOk P (.const kv) = true
noncomputable def st4 (P : Program) (tt t7 f ts : Nat) (kv v0 : Value) (H : Heap) : Option Heap := match (loadC P tt).f v0 H with
  | some (v1, _) => match nilCheckA v1 with
    | some v2 => match (fieldAddrC P t7 f).f v2 with
      | some v3 => match sizeB P ts with
        | some n => match storeTo n v3 kv H with
          | some (_, H') => some H'
          | none => none
        | none => none
      | none => none
    | none => none
  | none => none
theorem loadC_H (hr : (loadC P t).f a H = some (v, H')) : H' = H := by
  obtain ⟨id, off, rfl⟩ := loadC_ptr hr
  unfold loadC at hr
  split at hr
  · rename_i n _ _
    have hr : (match readCells H id off n with | some l => some (Value.agg l.toArray, H) | none => none) = some (v, H') := hr
    grind
  · have hr : withH H (readCell H id off) = some (v, H') := hr
    unfold withH at hr
    grind
  grind
section
theorem st_step {ts : Nat} {d : Nat} {o : Oper} (hk : operandOk P (.const kv) = true) (ho : o.op = .store ts (.tmp d) (.const kv)) : (stepC P o.op).f me T H = match sizeB P ts with | some n => storeTo n (nth T d) kv H | none => none := by
  rw [ho]
  have e : stepC P (.store ts (.tmp d) (.const kv)) = stepC0 P (.store ts (.tmp d) (.const kv)) := by
    simp_all[stepC,allN,operandOk,Op.operands]
  rw [e]
  show (match sizeB P ts with | some n => (⟨fun T H => storeTo n ((evC (.tmp d)).g T) ((evC (.const kv)).g T) H⟩ : OpF) | none => ⟨fun _ _ => none⟩).f T H = _
  cases sizeB P ts <;> rfl
theorem hd_some (h : Hd P tt t7 f ts kv s b c d l) (hb : b < T.length) (hc : c < T.length) (hd : d < T.length) (hr : opsA P me l l T H = some out) : st4 P tt t7 f ts kv (nth T s) H = some out.H := by
  obtain ⟨⟨o1, o2, o3, o4, rfl, ⟨a1, a2, a3⟩, ⟨b1, b2, b3⟩, ⟨c1, c2, c3⟩, d1, d2, d3⟩, hk⟩ := h
  replace hr : opF1 P me o1 ((wantedC _ o1.guard).f T) T H (fun T H => opF1 P me o2 ((wantedC _ o2.guard).f T) T H (fun T H => opF1 P me o3 ((wantedC _ o3.guard).f T) T H (fun T H => opF1 P me o4 ((wantedC _ o4.guard).f T) T H (fun T H => some ⟨.normal, T, H⟩)))) = some out := hr
  rw [a3, b3, c3, d3] at hr
  replace hr : opF1 P me o1 true T H (fun T H => opF1 P me o2 true T H (fun T H => opF1 P me o3 true T H (fun T H => opF1 P me o4 true T H (fun T H => some ⟨.normal, T, H⟩)))) = some out := hr
  unfold opF1 at hr
  simp only at hr
  rw [step_load a1, a2, b2, c2, d2] at hr
  unfold st4
  split at hr
  case h_2 => cases hr
  case h_1 v1 H1 h1 =>
  obtain rfl := loadC_H h1
  rw [h1]
  split at hr
  case h_2 => cases hr
  case h_1 v2 H2 h2 =>
  rw [b1] at h2
  have h2 : withH H1 (nilCheckA (nth (setN T b v1) b)) = some (v2, H2) := h2
  rw [nth_setN hb] at h2
  simp only
  cases hn : nilCheckA v1 with
  | none => rw [hn] at h2; cases h2
  | some w2 =>
  rw [hn] at h2
  cases h2
  split at hr
  case h_2 => cases hr
  case h_1 v3 H3 h3 =>
  rw [c1] at h3
  have h3 : withH H1 ((fieldAddrC P t7 f).f (nth (setN (setN T b v1) c v2) c)) = some (v3, H3) := h3
  rw [nth_setN (by simp_all[setN_eq])] at h3
  simp only
  cases hn3 : (fieldAddrC P t7 f).f v2 with
  | none => rw [hn3] at h3; cases h3
  | some w3 =>
  rw [hn3] at h3
  cases h3
  split at hr
  case h_2 => cases hr
  case h_1 v4 H4 h4 =>
  rw [st_step hk d1] at h4
  have h4 : (match sizeB P ts with | some n => storeTo n (nth (setN (setN (setN T b v1) c v2) d v3) d) kv H1 | none => none) = some (v4, H4) := h4
  grind[nth_setN,setN_eq]
theorem hd_of (h : Hd P tt t7 f ts kv s b c d l) (hb : b < T.length) (hc : c < T.length) (hd : d < T.length) (hr : st4 P tt t7 f ts kv (nth T s) H = some H') : ∃ out, opsA P me l l T H = some out ∧ out.H = H' := by
  obtain ⟨⟨o1, o2, o3, o4, rfl, ⟨a1, a2, a3⟩, ⟨b1, b2, b3⟩, ⟨c1, c2, c3⟩, d1, d2, d3⟩, hk⟩ := h
  show ∃ out, opF1 P me o1 ((wantedC _ o1.guard).f T) T H (fun T H => opF1 P me o2 ((wantedC _ o2.guard).f T) T H (fun T H => opF1 P me o3 ((wantedC _ o3.guard).f T) T H (fun T H => opF1 P me o4 ((wantedC _ o4.guard).f T) T H (fun T H => some ⟨.normal, T, H⟩)))) = some out ∧ out.H = H'
  rw [a3, b3, c3, d3]
  show ∃ out, opF1 P me o1 true T H (fun T H => opF1 P me o2 true T H (fun T H => opF1 P me o3 true T H (fun T H => opF1 P me o4 true T H (fun T H => some ⟨.normal, T, H⟩)))) = some out ∧ out.H = H'
  unfold st4 at hr
  split at hr
  case h_2 => cases hr
  case h_1 v1 H1 h1 =>
  obtain rfl := loadC_H h1
  split at hr
  case h_2 => cases hr
  case h_1 v2 h2 =>
  split at hr
  case h_2 => cases hr
  case h_1 v3 h3 =>
  split at hr
  case h_2 => cases hr
  case h_1 n hz =>
  split at hr
  case h_2 => cases hr
  case h_1 v4 H4 h4 =>
  cases hr
  unfold opF1
  rw [step_load a1, h1, a2, b2, c2, d2]
  simp only
  have e2 : (stepC P o2.op).f me (putT T (some b) v1) H1 = some (v2, H1) := by
    rw [b1]
    show withH H1 (nilCheckA (nth (setN T b v1) b)) = _
    rw [nth_setN hb, h2]; rfl
  rw [e2]
  simp only
  have e3 : (stepC P o3.op).f me (putT (putT T (some b) v1) (some c) v2) H1 = some (v3, H1) := by
    rw [c1]
    show withH H1 ((fieldAddrC P t7 f).f (nth (setN (setN T b v1) c v2) c)) = _
    rw [nth_setN (by simp_all[setN_eq]), h3]; rfl
  have e4 : (stepC P o4.op).f me (putT (putT (putT T (some b) v1) (some c) v2) (some d) v3) H1 = some (v4, H') := by
    rw [st_step hk d1, hz]
    show storeTo n (nth (setN (setN (setN T b v1) c v2) d v3) d) kv H1 = _
    grind[nth_setN,setN_eq]
  simp_all
end
end
end Go.Ab
namespace Go.Ab
open Go
variable {B H P cv cv' f g gn hh kv me o ops1 pv t7 ts tt u w y σ}
set_option linter.unusedVariables false
set_option linter.unusedSectionVars false
section
variable [Base]
structure Clo (P : Program) (g : FuncId) (gn : Func) (tt t7 f ts : Nat) (kv : Value) (ops1 : Array Oper) : Prop where
  fn : P.funcs[g]? = some gn
  body : ∃ (j0 j1 : Nat) (rc ne : Oper), gn.body = some (.seq (.region j0 #[rc, ne] false) (.cond (.tmp 2) (.region j1 ops1 false) .skip)) ∧ (∀ (A : Act) w, (execOp A.eval rc).run P w = .ok .recover w) ∧ rc.dst = some 1 ∧ rc.guard = none ∧ ne.dst = some 2 ∧ ne.guard = none ∧
    (∀ (A : Act) w u pv, A.eval (.tmp 1) = .iface u pv → (execOp A.eval ne).run P w = .ok (.value (.bool true)) w) ∧ (∀ (A : Act) w, A.eval (.tmp 1) = .nilIface → (execOp A.eval ne).run P w = .ok (.value (.bool false)) w)
  nt : gn.ntmps = 6
  res : ∀ (tmps : Array Value) (w : World), (results gn tmps).run P w = .ok (.tuple #[]) w
  ops : Hd P tt t7 f ts kv 0 3 4 5 ops1.toList
theorem want_no (h : o.guard = none) : Region.wanted o y = true := by grind[Region.wanted]
theorem frame_mode {c : Frame} (h : c.mode = u) : c = { c with mode := u } := by subst h; rfl
theorem clo_idle (h : Clo P g gn tt t7 f ts kv ops1) (cv : Value) (w : World) : CallsDIn (Wd none) 0 P g #[cv] .returning w fun e u' w' => (∃ v, e = .returned v) ∧ u' = .returning ∧ w' = w := by
  obtain ⟨j0, j1, rc, ne, hb, hrc, hrd, hrg, hnd, hng, _, hne0⟩ := h.body
  refine callsDIn_of_wpSIn h.fn hb trivial fun c₀ cs hu => ?_
  rw [h.nt]
  refine wpSIn_seq (wpSIn_region ?_)
  have hsz : List.range (#[rc, ne] : Array Oper).size = [0, 1] := rfl
  rw [hsz]
  have e0 : (#[rc, ne] : Array Oper)[0]? = some rc := rfl
  have e1 : (#[rc, ne] : Array Oper)[1]? = some ne := rfl
  simp only [wpOpsSIn, e0, e1]
  rw [if_pos (want_no hrg), hrc]
  have hrec : recoverD (c₀ :: cs) = none := by simp [recoverD, hu]
  rw [hrec]
  refine ⟨fun _ _ => trivial, fun _ _ => trivial, ?_⟩
  rw [if_pos (want_no hng), hne0 _ _ (by simp_all[put_self])]
  refine wpSIn_cond (t := false) (by simp_all[put_self,put_size]) (wpSIn_of_wpIn rfl (wpIn_skip (⟨by simp_all[put_defers], .returning, ?_, _, h.res _ _, ⟨_, rfl⟩, rfl, rfl⟩)))
  rw [← frame_mode hu]
theorem clo_catch {H' : Heap} (hP : Good P) (hS : SelfOk P me) (h : Clo P g gn tt t7 f ts kv ops1) (k : Known P B σ hh H w) (hcv : VR σ cv cv') (hst : st4 P tt t7 f ts kv cv H = some H') (hfr : Fresh σ H.next H'.next) :
    CallsDIn (Wd none) 0 P g #[cv'] (.panicking [{ v := .iface u pv, recovered := false }]) w fun e u' w' => (∃ v, e = .returned v) ∧ u' = .panicking [{ v := .iface u pv, recovered := true }] ∧ ∃ τ h', Stp B σ hh H w τ h' H' w' := by
  obtain ⟨j0, j1, rc, ne, hb, hrc, hrd, hrg, hnd, hng, hne1, _⟩ := h.body
  refine callsDIn_of_wpSIn h.fn hb trivial fun c₀ cs hu => ?_
  rw [h.nt]
  refine wpSIn_seq (wpSIn_region ?_)
  have hsz : List.range (#[rc, ne] : Array Oper).size = [0, 1] := rfl
  rw [hsz]
  have e0 : (#[rc, ne] : Array Oper)[0]? = some rc := rfl
  have e1 : (#[rc, ne] : Array Oper)[1]? = some ne := rfl
  simp only [wpOpsSIn, e0, e1]
  rw [if_pos (want_no hrg), hrc]
  simp only
  have hrec : recoverD (c₀ :: cs) = some (.iface u pv, { c₀ with mode := .panicking [{ v := .iface u pv, recovered := true }] } :: cs) := by simp [recoverD, hu]
  rw [hrec]
  simp only
  refine ⟨fun _ _ => trivial, fun _ _ => trivial, ?_⟩
  rw [if_pos (want_no hng), hne1 _ _ u pv (by simp_all[put_self])]
  simp only
  refine wpSIn_cond (t := true) (by simp_all[put_self,put_size]) ?_
  simp only [if_true]
  refine wpSIn_of_wpIn rfl ?_
  rw [hrd, hnd]
  have hT := hcv.cons (.cons .undef (.cons .undef (.cons .undef (.cons .undef (.cons .undef .nil)))))
  obtain ⟨out, hrun, rfl⟩ := hd_of h.ops (T := [cv, undef, undef, undef, undef, undef]) (show 3 < 6 by decide) (show 4 < 6 by decide) (show 5 < 6 by decide) hst
  refine wpIn_mono (Q := fun e a w' => e = .normal ∧ a.defers = [] ∧ ∃ τ h', Stp B σ hh H w τ h' out.H w') (wpIn_region ?_) ?_
  · refine wpOps_sub (Q := fun e ds w' => e = .normal ∧ ds = [] ∧ ∃ τ h', Stp B σ hh H w τ h' out.H w') (Kp := fun t => t != 1 && t != 2) ?_ _ { tmps := #[cv'] ++ Array.replicate (6 - (#[cv'] : Array Value).size) undef, defers := [] } _ w ?_ ?_ ?_ ?_
    · obtain ⟨o1, o2, o3, o4, hl, ⟨a1, a2, a3⟩, ⟨b1, b2, b3⟩, ⟨c1, c2, c3⟩, d1, d2, d3⟩ := h.ops.ex
      intro i o hi
      have hi' : [o1, o2, o3, o4][i]? = some o := by grind
      match i, hi' with
      | 0, hi' => simp_all[Op.operands]
      | 1, hi' => simp_all[Op.operands]
      | 2, hi' => simp_all[Op.operands]
      | 3, hi' => simp_all[Op.operands]
      | n + 4, hi' => grind
    · simp_all[put_ne,Ne.symm]
    · grind[put_size]
    · rfl
    · rw [List.range_eq_range', ← Array.length_toList]
      exact opsA_ok hP hS ops1 none ops1.toList 0 rfl σ hh _ H w _ out k hfr hT hrun fun τ h' a' w' q1 q2 q3 => ⟨rfl, q2, τ, h', q3⟩
  · rintro e a w' ⟨rfl, hd, τ, h', hs⟩
    exact ⟨hd, _, rfl, _, h.res _ _, ⟨_, rfl⟩, rfl, τ, h', hs⟩
end
end Go.Ab
namespace Go.Ab
open Go
variable {Bc Bc' D P b c cc d f fn fx g gn i0 i1 i9 k kv ops1 ops9 r0 t7 ts tt}
set_option linter.unusedVariables false
set_option linter.unusedSectionVars false
section
variable [Base] [Orc]
theorem bod_caught {t : Nat} {s : Nat} {mk : Oper} (hP : Good P) 
    (hf : P.funcs[f]? = some fn) (hb : fn.body = some (.seq (.region i0 r0 false) (.seq (.region i1 #[mk, D] false) Bc)))
    (hmk : mk.op = .makeFunc (.func g) #[] #[.tmp s]) (hmd : mk.dst = some t) (hmg : mk.guard = none)
    (hD : D.op = .defer cc) (hcc : cc.callee = .value (.tmp t)) (hca : cc.args = #[]) (hDg : D.guard = none) (hDd : D.dst = none)
    (ht : t < fn.ntmps) (hk : k + 1 < fn.ntmps) (hpar : fn.params.size + fn.nfree ≤ k) (htk : t < k) (hts : t ≠ s)
    (h0k : laysB P k (.region i0 r0 false) = false) (h0k1 : laysB P (k + 1) (.region i0 r0 false) = false)
    (hC : Clo P g gn tt t7 fx ts kv ops1) (h9 : Hd P tt t7 fx ts kv s b c d ops9.toList) (hbk : b ≤ k) (hck : c ≤ k) (hdk : d ≤ k)
    (hres : fn.results = #[])
    (hsim : ∀ me, SelfOk P me → SimE P me s k (.seq (.region i9 ops9 false) .ret) Bc' Bc) :
    BodGood P f (.seq (.region i0 r0 false) (.seq (.region i1 #[mk] false) Bc')) := by
  intro n hA args H ex v H' hr B σ h w args' k0 hfr hv
  have hS := hA n (Nat.le_refl _)
  obtain ⟨fn', o1, v1, hf', hc, hx, hrs, ho, hlen⟩ := fnW_some hr
  rw [hf] at hf'
  cases hf'
  cases ho
  refine ⟨⟨fn, _, hf, hb⟩, callsIn_of_wp_defers hf hb trivial ?_⟩
  have hT := init_ok hv fn.ntmps
  have hlen0 : fn.ntmps ≤ (args ++ List.replicate (fn.ntmps - args.length) undef).length := by grind
  have hund : ∀ i, args.length ≤ i → nth (args ++ List.replicate (fn.ntmps - args.length) undef) i = undef := by
    grind[nth_eq]
  have hu0 := hund k (by omega)
  have hu1 := hund (k + 1) (by omega)
  clear hund
  generalize args ++ List.replicate (fn.ntmps - args.length) undef = T0 at *
  obtain ⟨oa, ha, hax, hc⟩ := then2 (x := codeC P true (.region i0 r0 false)) hc (fun o ho => (opsA_mo hS r0.toList r0.toList T0 H o k0.fl ho).2)
  have hao := ha
  have ma := codeC_mo hS true _ _ _ _ k0.fl ha
  obtain ⟨ob, hb1, hbx, hc⟩ := then2 (x := codeC P true (.region i1 #[mk] false)) hc (fun o ho => (opsA_mo hS [mk] [mk] oa.T oa.H o (ma.wf k0.fl) ho).2)
  have hbo : opsA P (runO P n) [mk] [mk] oa.T oa.H = some ob := hb1
  have mb := codeC_mo hS true _ _ _ _ (ma.wf k0.fl) hb1
  have mc := codeC_mo hS true _ _ _ _ (mb.wf (ma.wf k0.fl)) hc
  have hal := opsA_len _ _ _ _ _ hao
  have hbl := (opsA_len _ _ _ _ _ hbo).trans hal
  have hcl : ob.T = setN oa.T t (.func (.func g) #[] #[nth oa.T s]) := by
    have hbo' : opF1 P (runO P n) mk ((wantedC [mk] mk.guard).f oa.T) oa.T oa.H (opsA P (runO P n) [mk] []) = some ob := hbo
    rw [hmg] at hbo'
    have hbo' : opF1 P (runO P n) mk true oa.T oa.H (opsA P (runO P n) [mk] []) = some ob := hbo'
    unfold opF1 at hbo'
    simp only at hbo'
    split at hbo'
    · rename_i v2 H2 hs
      cases hbo'
      have hv2 : v2 = .func (.func g) #[] #[nth oa.T s] := by
        unfold stepC at hs
        split at hs
        · rw [hmk] at hs
          have hs : some (Value.func (.func g) #[] #[nth oa.T s], oa.H) = some (v2, H2) := hs
          simp_all
        grind
      simp_all[putT]
    grind
  have hnt : nth ob.T t = .func (.func g) #[] #[nth oa.T s] := by grind[nth_setN]
  have hns : nth ob.T s = nth oa.T s := by simp_all[nth_setN_ne]
  have hGd : Gd k ob.T := by
    refine ⟨?_, ?_, by omega⟩
    · rw [hcl, nth_setN_ne (by omega), codeC_nth true k (.region i0 r0 false) rfl h0k _ _ _ ha]; exact hu0
    · rw [hcl, nth_setN_ne (by omega), codeC_nth true (k + 1) (.region i0 r0 false) rfl h0k1 _ _ _ ha]; exact hu1
  have hfa : Fresh σ H.next oa.H.next := hfr.left (Nat.le_trans mb.le mc.le)
  refine wpIn_seq ?_
  refine wpIn_mono (codeP_ok hP hS true (.region i0 r0 false) rfl _ _ _ ha σ h w ⟨_, []⟩ none k0 hfa hT) ?_
  rintro e a1 w1 ⟨q1, q2, τ, h1, q3, q4⟩
  rw [hax] at q1
  subst q1
  show (Code.seq (.region i1 #[mk, D] false) Bc).wpIn (Wd none) 0 P _ a1 w1
  have k1 := k0.next q4
  have hfb : Fresh τ oa.H.next ob.H.next := (hfr.right q4.goes).left mc.le
  refine wpIn_seq ?_
  refine wpIn_region ?_
  rw [List.range_eq_range']
  have hsz : (#[mk, D] : Array Oper).size = [mk].length + [D].length := rfl
  rw [hsz]
  refine opsA_pre hP hS #[mk, D] [mk] none [D] [mk] 0 rfl (by simp_all) τ h1 oa.T oa.H w1 a1 ob k1 hfb q3 hbo ?_
  intro υ h2 a2 w2 p1 p2 p3
  have hev := eval_tmp p1 t
  rw [hnt] at hev
  obtain ⟨cv', hcv, hev⟩ : ∃ cv', VR υ (nth oa.T s) cv' ∧ a2.eval (.tmp t) = .func (.func g) #[] #[cv'] := by
    generalize a2.eval (.tmp t) = z at hev
    cases hev with
    | func _ _ x' _ y' hx hy _ =>
      have e1 := hx.nil_inv
      obtain ⟨y, r, e2, h3, h4⟩ := hy.uncons
      have e3 := h4.nil_inv
      subst e3
      exact ⟨y, h3, by rw [show x' = #[] from Array.ext' e1, show y' = #[y] from Array.ext' e2]⟩
  have k2 := k1.next p3
  have hd2 : a2.defers = [] := p2.trans q2
  refine defer_ok rfl hDg hD hDd hcc hev ?_
  rw [hca]
  show Bc.wpIn (Wd none) 0 P _ _ w2
  have hfc2 : Fresh υ ob.H.next o1.H.next := (hfr.right q4.goes).right p3.goes
  have hstp : Stp B σ h H w υ h2 ob.H w2 := q4.trans k0 hfa (p3.trans k1 hfb (Stp.refl k2))
  have hsimw := hsim _ hS ob.T ob.H o1 hGd (mb.wf (ma.wf k0.fl)) hc
  have hv1 : v = .tuple #[] := by
    rw [hres] at hrs
    have hrs : some (Value.tuple #[]) = some v := hrs
    simp_all
  have hrun0 : ∀ (tmps : Array Value) (w : World), (results fn tmps).run P w = .ok (.tuple #[]) w := by
    simp_all[results_eq]
  refine wpIn_mono (hsimw B υ h2 w2 { a2 with defers := ⟨.fn (.func g) #[cv'], #[] ++ (#[] : Array Operand).map a2.eval⟩ :: a2.defers } k2 hfc2 p1) ?_
  have hgo : ∀ w3, (invoke (.fn (.func g) #[cv']) (#[] ++ (#[] : Array Operand).map a2.eval)).run P w3 = .ok (.enter g #[cv']) w3 := by
    intro w3
    obtain ⟨j0, j1, rc, ne, hbd, _⟩ := hC.body
    show (callFunc g ((#[] ++ (#[] : Array Operand).map a2.eval) ++ #[cv'])).run P w3 = _
    have e : (#[] ++ (#[] : Array Operand).map a2.eval) ++ #[cv'] = #[cv'] := by simp
    rw [e]
    exact callFunc_enter hP hC.fn hbd _ _
  rintro e a3 w3 (⟨g1, g2, φ, h3, g3, g4⟩ | ⟨u, pv, φ, h3, H1, T1, g1, g2, g3, g4, g5, g6, g7⟩)
  · have hst := hstp.trans k0 (hfr.left mc.le) g4
    have hfin : LeavesIn (Wd none) 0 P fn a3.tmps (fun e w' => ∃ v' τ h', e = .returned v' ∧ VR τ v v' ∧ Stp B σ h H w τ h' o1.H w') a3.defers .returning w3 := by
      rw [g2]
      show LeavesIn (Wd none) 0 P fn a3.tmps _ (_ :: a2.defers) .returning w3
      rw [hd2]
      refine leavesIn_cons (by simp) (fun h => by cases h) (hgo w3) (fun _ _ => trivial) ?_
      refine (clo_idle hC cv' w3).mono ?_
      rintro e u' w' ⟨⟨v0, rfl⟩, rfl, rfl⟩
      exact ⟨_, hrun0 _ _, _, φ, h3, rfl, by rw [hv1]; exact .tuple _ _ .nil .nil, hst⟩
    cases he : o1.ex with
    | exit id => simp_all
    | normal => rw [he] at g1; subst g1; exact hfin
    | ret => rw [he] at g1; subst g1; exact hfin
  · subst g1
    have hst := hstp.trans k0 (hfr.left mc.le) (show Stp B υ h2 ob.H w2 φ h3 H1 w3 from g3)
    have k3 := k2.next g3
    obtain ⟨o9, hr9, _, hr9'⟩ := then2 g7 (fun o ho => (opsA_mo hS ops9.toList ops9.toList T1 H1 o k3.fl ho).2)
    have hr9 : opsA P (runO P n) ops9.toList ops9.toList T1 H1 = some o9 := hr9
    have e9 : o1.H = o9.H := by
      have : some (⟨.ret, o9.T, o9.H⟩ : Out) = some o1 := hr9'
      grind
    have hst4 := hd_some h9 (by omega) (by omega) (by omega) hr9
    rw [← e9, g5, hns] at hst4
    have hfr3 : Fresh φ H1.next o1.H.next := hfc2.right g3.goes
    show LeavesIn (Wd none) 0 P fn a3.tmps _ a3.defers (.panicking _) w3
    rw [g2]
    show LeavesIn (Wd none) 0 P fn a3.tmps _ (_ :: a2.defers) (.panicking _) w3
    rw [hd2]
    refine leavesIn_cons (by simp) (fun h => by cases h) (hgo w3) (fun _ _ => trivial) ?_
    refine (clo_catch hP hS hC k3 (hcv.mono g3.goes.mono) hst4 hfr3).mono ?_
    rintro e u' w' ⟨⟨v0, rfl⟩, rfl, ψ, h4, hs4⟩
    have hset : settle (.panicking [{ v := .iface u pv, recovered := true }]) = .returning := by rfl
    show LeavesIn (Wd none) 0 P fn a3.tmps _ [] (settle _) w'
    rw [hset]
    refine ⟨_, hrun0 _ _, _, ψ, h4, rfl, by rw [hv1]; exact .tuple _ _ .nil .nil, ?_⟩
    refine hst.trans k0 ?_ hs4
    exact hfr.left (by exact g4.le)
end
end Go.Ab
namespace Go.Ab
open Go
variable {P f ms ne pv rc t tys u w yt}
set_option linter.unusedVariables false
set_option linter.unusedSectionVars false
noncomputable def fnAt (P : Program) (f : Nat) : Func := (P.funcs.toList[f]?).getD default
theorem fn_at (h : (P.funcs.toList[f]?).isSome = true) : P.funcs[f]? = some (fnAt P f) := by
  simp_all[fnAt]
def cl : Code → Code | .seq a _ => a | c => c
def cr : Code → Code | .seq _ b => b | c => c
def ct : Code → Code | .cond _ a _ => a | c => c
def cops : Code → Array Oper | .region _ o _ => o | _ => #[]
def cid : Code → Nat | .region i _ _ => i | _ => 0
def cc? : Code → Operand | .cond c _ _ => c | _ => .tmp 0
def opAt (c : Code) (i : Nat) : Oper := ((cops c).toList[i]?).getD default
def callOf (o : Oper) : Call := match o.op with | .defer c => c | .call c => c | _ => default
theorem rec_run (h : rc.op = .call ⟨.builtin .recover, #[], tys⟩) (A : Act) (w : World) : (execOp A.eval rc).run P w = .ok .recover w := by
  obtain ⟨dst, op, ty, pos, after, guard⟩ := rc
  subst h
  rfl
theorem eq_run1 (ht : P.underlying t = some (.interface ms)) : (Op.equal t (.iface u pv) .nilIface).run P w = .ok false w := by
  show (Op.equalIn (9999 + 1) t (.iface u pv) .nilIface).run P w = _
  generalize 9999 = d
  simp only [Op.equalIn, Sem.run_bind, run_underlying ht, Result.andThen_ok, Sem.run_pure]
theorem eq_run0 (ht : P.underlying t = some (.interface ms)) : (Op.equal t .nilIface .nilIface).run P w = .ok true w := by
  show (Op.equalIn (9999 + 1) t .nilIface .nilIface).run P w = _
  generalize 9999 = d
  simp only [Op.equalIn, Sem.run_bind, run_underlying ht, Result.andThen_ok, Sem.run_pure]
theorem neq_run (h : ne.op = .binOp .neq t (.tmp 1) (.const .nilIface) yt) (ht : P.underlying t = some (.interface ms)) :
    (∀ (A : Act) w u pv, A.eval (.tmp 1) = .iface u pv → (execOp A.eval ne).run P w = .ok (.value (.bool true)) w) ∧ (∀ (A : Act) w, A.eval (.tmp 1) = .nilIface → (execOp A.eval ne).run P w = .ok (.value (.bool false)) w) := by
  obtain ⟨dst, op, ty, pos, after, guard⟩ := ne
  have hc : ∀ A : Act, A.eval (.const .nilIface) = .nilIface := fun _ => rfl
  simp_all[execOp,eqGuard,binOp,eq_run1,eq_run0]
end Go.Ab
