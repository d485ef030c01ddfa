import Derived.Test.YtccblhllmplmaaaAbMem6
namespace Go.Ab
open Go

section
variable {P : Program} {σ : Loc} {B : Nat} {h : Nat → Option Blk} {H H' : Heap} {w : World}

def GlobOk (P : Program) (σ : Loc) : Prop := ∀ g, g < P.globals.size → ∃ s, σ g = some (g, 0, s)

theorem ev_ok {T : List Value} {a : Act} (hT : VRs σ T a.tmps.toList) (hG : GlobOk P σ) (x : Operand) (hx : operandOk P x = true) : VR σ ((evC x).g T) (a.eval x) := by
  cases x with
  | tmp t =>
    show VR σ (nth T t) (a.tmps.getD t undef)
    rw [nth_eq]
    have : a.tmps.getD t undef = a.tmps.toList.getD t undef := by simp
    rw [this]
    exact hT.getD t
  | const v => exact constOk_VR hx
  | global g =>
    simp only [operandOk, blt_eq, decide_eq_true_eq] at hx
    obtain ⟨s, hs⟩ := hG g hx
    exact .ptr g 0 g 0 s hs .nil
  | func f => exact .func f _ _ _ _ .nil .nil .nil

theorem evs_map (l : List Operand) (T : List Value) : evs l T = l.map fun x => (evC x).g T := by
  induction l with
  | nil => rfl
  | cons x r ih => show (evC x).g T :: evs r T = _; rw [ih]; rfl

theorem evs_ok {T : List Value} {a : Act} (hT : VRs σ T a.tmps.toList) (hG : GlobOk P σ) (l : List Operand) (hl : ∀ x ∈ l, operandOk P x = true) : VRs σ (evs l T) (l.map a.eval) := by
  induction l with
  | nil => exact .nil
  | cons x r ih => exact (ev_ok hT hG x (hl x (by simp))).cons (ih fun y hy => hl y (by simp [hy]))

/-- an operation that calls nothing -/
def DoesN (P : Program) (B : Nat) (s : Sem Next) (w : World) (σ : Loc) (h : Nat → Option Blk) (H : Heap) (v : Value) (H' : Heap) : Prop :=
  ∃ r v' w' τ, s.run P w = .ok r w' ∧ (r = .value v' ∨ (r = .skip ∧ v' = undef)) ∧ VR τ v v' ∧ Goes B σ h H.next w τ (upd h H H') H'.next w'

theorem Does.next {s : Sem Value} {v : Value} (hd : Does P B s w σ h H v H') : DoesN P B (s >>= fun x => Pure.pure (Next.value x)) w σ h H v H' := by
  obtain ⟨v', w', τ, h1, h2, h3⟩ := hd
  exact ⟨.value v', v', w', τ, by simp only [Sem.run_bind, h1, Result.andThen_ok, Sem.run_pure], .inl rfl, h2, h3⟩

theorem withH_some {x : Option Value} {v : Value} (hr : withH H x = some (v, H')) : H' = H ∧ x = some v := by
  cases x with
  | none => cases hr
  | some u => cases hr; exact ⟨rfl, rfl⟩

theorem parts_arr (parts : Array (Nat × Operand)) (ρ : Operand → Value) : (parts.map fun (i, x) => (i, ρ x)) = (parts.toList.map fun p => (p.1, ρ p.2)).toArray := by
  apply Array.ext'
  simp

theorem parts_ok {T : List Value} {a : Act} (hT : VRs σ T a.tmps.toList) (hG : GlobOk P σ) (l : List (Nat × Operand)) (hl : ∀ p ∈ l, operandOk P p.2 = true) :
    (evParts l T).map (·.1) = (l.map fun p => (p.1, a.eval p.2)).map (·.1) ∧ VRs σ ((evParts l T).map (·.2)) ((l.map fun p => (p.1, a.eval p.2)).map (·.2)) := by
  obtain ⟨h1, h2⟩ := parts_map l T
  refine ⟨by rw [h1]; simp, ?_⟩
  rw [h2]
  clear h1 h2
  induction l with
  | nil => exact .nil
  | cons p r ih => exact (ev_ok hT hG p.2 (hl p (by simp))).cons (ih fun y hy => hl y (by simp [hy]))

theorem vo_ok {T : List Value} {a : Act} (hT : VRs σ T a.tmps.toList) (hG : GlobOk P σ) (x : Option Operand) (hx : ∀ y, x = some y → operandOk P y = true) : VO σ (evO x T) (x.map a.eval) := by
  cases x with
  | none => exact .none
  | some y => exact .some (ev_ok hT hG y (hx y rfl))

theorem two_inv {g : Value → Value → Heap → R} {l : List Value} {r : Value × Heap} (hr : two g l H = some r) : ∃ x y, l = [x, y] := by
  unfold two at hr
  split at hr
  · exact ⟨_, _, rfl⟩
  · cases hr
theorem one_inv {g : Value → Heap → R} {l : List Value} {r : Value × Heap} (hr : one g l H = some r) : ∃ x, l = [x] := by
  unfold one at hr
  split at hr
  · exact ⟨_, rfl⟩
  · cases hr

theorem capC_some {t : TypeId} {x v : Value} (hr : (capC P t).f x H = some (v, H')) : H' = H ∧ ∃ e size, P.underlying t = some (.slice e) ∧ sizeB P e = some size ∧ ∃ a n c, x = .slice a n c ∧ ((a = none ∧ n = 0 ∧ c = 0 ∧ v = .int .i64 0) ∨ (a ≠ none ∧ c = 2 * size + 1 ∧ v = .int .i64 n)) := by
  unfold capC at hr
  split at hr
  · rename_i e hu
    split at hr
    · rename_i size hs
      simp only [capTo] at hr
      split at hr
      · rename_i a n c
        split at hr
        · split at hr
          · rename_i hb
            rw [Bool.and_eq_true] at hb
            cases hr
            exact ⟨rfl, e, size, hu, hs, _, _, _, rfl, .inl ⟨rfl, Nat.eq_of_beq_eq_true hb.1, Nat.eq_of_beq_eq_true hb.2, rfl⟩⟩
          · cases hr
        · split at hr
          · rename_i hb
            cases hr
            exact ⟨rfl, e, size, hu, hs, _, _, _, rfl, .inr ⟨by simp, Nat.eq_of_beq_eq_true hb, rfl⟩⟩
          · cases hr
      · cases hr
    · cases hr
  · cases hr

theorem builtin_ok {b : Builtin} {argTypes : Array TypeId} {ty : TypeId} {consts : Array Bool} {l : List Value} {l' : Array Value} {v : Value} (hs : SimF σ B h w) (hB : B ≤ w.heap.size) (hid : ∀ i, H.next ≤ i → i < H'.next → σ i = none)
    (hag : (b = .append ∨ b = .copy ∨ b = .clear) → ∀ x ∈ l, AgV h H x) (hl : VRs σ l l'.toList) (hr : (builtinC P b argTypes.toList).f l H = some (v, H')) : DoesN P B (builtin b argTypes ty consts l') w σ h H v H' := by
  have two' : ∀ x y, l = [x, y] → ∃ x' y', l' = #[x', y'] ∧ VR σ x x' ∧ VR σ y y' := by
    intro x y e
    subst e
    obtain ⟨x', r, e1, hx, hr'⟩ := hl.uncons
    obtain ⟨y', r2, e2, hy, hr2⟩ := hr'.uncons
    have e3 := hr2.nil_inv
    subst e3; subst e2
    exact ⟨x', y', Array.ext' e1, hx, hy⟩
  have one' : ∀ x, l = [x] → ∃ x', l' = #[x'] ∧ VR σ x x' := by
    intro x e
    subst e
    obtain ⟨x', r, e1, hx, hr'⟩ := hl.uncons
    have e3 := hr'.nil_inv
    subst e3
    exact ⟨x', Array.ext' e1, hx⟩
  unfold builtinC at hr
  cases b <;> simp only at hr <;> first | (cases hr; done) | skip
  case append =>
    unfold appendAny at hr
    split at hr
    case h_2 => cases hr
    case h_1 sT xT hat =>
    obtain rfl : argTypes = #[sT, xT] := Array.ext' hat
    split at hr
    case h_1 hxT =>
      have ht : ∃ x y, l = [x, y] := by
        unfold appendZ at hr
        split at hr
        · split at hr
          · split at hr
            · split at hr
              · exact two_inv hr
              · cases hr
            · cases hr
          · cases hr
        · cases hr
      obtain ⟨x, y, rfl⟩ := ht
      obtain ⟨x', y', rfl, hx, hy⟩ := two' x y rfl
      exact (appendZ_ok hs hB hid hxT hx hy hr).next
    case h_2 =>
    have ht : ∃ x y, l = [x, y] := by
      unfold appendC at hr
      simp only at hr
      split at hr
      · split at hr
        · split at hr
          · split at hr
            · exact two_inv hr
            · cases hr
          · cases hr
        · cases hr
      · cases hr
    obtain ⟨x, y, rfl⟩ := ht
    obtain ⟨x', y', rfl, hx, hy⟩ := two' x y rfl
    exact (append_ok hs hB hid (hag (by simp) x (by simp)) (hag (by simp) y (by simp)) hx hy hr).next
  case clear =>
    split at hr
    · rename_i t ts hat
      obtain ⟨x, rfl⟩ := one_inv hr
      obtain ⟨x', rfl, hx⟩ := one' x rfl
      have hd := clear_ok (ty := ty) hs (hag (by simp) x (by simp)) hx hr
      have : Builtin.clear_ argTypes ty #[x'] = Builtin.clear_ #[t] ty #[x'] := by
        have e : argTypes[0]? = some t := by
          have : argTypes.toList[0]? = some t := by rw [hat]; rfl
          simpa using this
        unfold Builtin.clear_
        rw [e]
        rfl
      show DoesN P B (do pure (Next.value (← Builtin.clear_ argTypes ty #[x']))) w σ h H v H'
      rw [this]
      exact hd.next
    · cases hr
  case copy =>
    have ht : ∃ dT, argTypes[0]? = some dT ∧ (∃ x y, l = [x, y]) ∧ (copyC P [dT, dT]).f l H = some (v, H') := by
      unfold copyC at hr
      split at hr
      · rename_i dT ts hat
        refine ⟨dT, ?_, ?_, ?_⟩
        · have : argTypes.toList[0]? = some dT := by rw [hat]; rfl
          simpa using this
        · split at hr
          · split at hr
            · split at hr
              · exact two_inv hr
              · cases hr
            · cases hr
          · cases hr
        · unfold copyC
          exact hr
      · cases hr
    obtain ⟨dT, hd, ⟨x, y, rfl⟩, hr'⟩ := ht
    obtain ⟨x', y', rfl, hx, hy⟩ := two' x y rfl
    have hdo := copy_ok (ty := ty) hs (hag (by simp) x (by simp)) (hag (by simp) y (by simp)) hx hy hr'
    have : Builtin.copy_ argTypes ty #[x', y'] = Builtin.copy_ #[dT, dT] ty #[x', y'] := by
      unfold Builtin.copy_
      rw [hd]
      rfl
    show DoesN P B (do pure (Next.value (← Builtin.copy_ argTypes ty #[x', y']))) w σ h H v H'
    rw [this]
    exact hdo.next
  case len =>
    split at hr
    · rename_i t ts hat
      obtain ⟨x, rfl⟩ := one_inv hr
      obtain ⟨x', rfl, hx⟩ := one' x rfl
      obtain ⟨rfl, hd⟩ := len_builtin_ok (P := P) (ty := ty) (w := w) hx hr
      have : Builtin.len_ argTypes ty #[x'] = Builtin.len_ #[t] ty #[x'] := by
        have e : argTypes[0]? = some t := by
          have : argTypes.toList[0]? = some t := by rw [hat]; rfl
          simpa using this
        unfold Builtin.len_
        rw [e]
        rfl
      show DoesN P B (do pure (Next.value (← Builtin.len_ argTypes ty #[x']))) w σ h H' v H'
      rw [this]
      exact (Does.pure hs hd).next
    · cases hr
  case cap =>
    split at hr
    · rename_i t ts hat
      obtain ⟨x, rfl⟩ := one_inv hr
      obtain ⟨x', rfl, hx⟩ := one' x rfl
      have hr : (capC P t).f x H = some (v, H') := hr
      obtain ⟨rfl, e, size, hu, hsz, a, n, c, rfl, hc⟩ := capC_some hr
      have e0 : argTypes[0]? = some t := by
        have : argTypes.toList[0]? = some t := by rw [hat]; rfl
        simpa using this
      have hd : ∃ v', (Builtin.cap_ argTypes ty #[x']).run P w = .ok v' w ∧ VR σ v v' := by
        unfold Builtin.cap_
        rw [e0]
        rcases hc with ⟨rfl, rfl, rfl, rfl⟩ | ⟨ha, rfl, rfl⟩
        · cases hx
          exact ⟨_, by simp [run_underlying hu, goInt], VR.int⟩
        · generalize hcc : 2 * size + 1 = cc at hx
          cases hx
          case slNil => exact absurd rfl ha
          case slFull => exact ⟨_, by simp [run_underlying hu, goInt], VR.int⟩
          case slOpen => omega
      show DoesN P B (do pure (Next.value (← Builtin.cap_ argTypes ty #[x']))) w σ h H' v H'
      exact (Does.pure hs hd).next
    · cases hr
  case max =>
    obtain ⟨rfl, hm⟩ := withH_some hr
    unfold maxA at hm
    cases l with
    | nil => cases hm
    | cons x r =>
      simp only at hm
      cases x <;> simp only at hm <;> first | (cases hm; done) | skip
      rename_i k n
      obtain ⟨x', r', e1, hx, hr'⟩ := hl.uncons
      rw [hx.int_inv] at e1
      obtain ⟨h1, h2⟩ := maxL_ok (P := P) (w := w) r r' n k v hr' hm
      refine (Does.pure hs ⟨v, ?_, h2⟩).next
      unfold Builtin.max_
      rw [e1]
      exact h1
  case min =>
    obtain ⟨rfl, hm⟩ := withH_some hr
    unfold minA at hm
    cases l with
    | nil => cases hm
    | cons x r =>
      simp only at hm
      cases x <;> simp only at hm <;> first | (cases hm; done) | skip
      rename_i k n
      obtain ⟨x', r', e1, hx, hr'⟩ := hl.uncons
      rw [hx.int_inv] at e1
      obtain ⟨h1, h2⟩ := minL_ok (P := P) (w := w) r r' n k v hr' hm
      refine (Does.pure hs ⟨v, ?_, h2⟩).next
      unfold Builtin.min_
      rw [e1]
      exact h1

set_option maxHeartbeats 2000000 in
theorem opC_ok (o : Oper) {T : List Value} {a : Act} {v : Value} (hs : SimF σ B h w) (hB : B ≤ w.heap.size) (hG : GlobOk P σ) (hT : VRs σ T a.tmps.toList) (hid : ∀ i, H.next ≤ i → i < H'.next → σ i = none)
    (hok : allN (operandOk P) o.op.operands.toList = true) (hag : (kindC P o.op = 1 ∨ kindC P o.op = 4) → ∀ x ∈ o.op.operands.toList, AgV h H ((evC x).g T)) (hr : (opC P o.op).f T H = some (v, H')) : DoesN P B (execOp a.eval o) w σ h H v H' := by
  rw [allN_eq, List.all_eq_true] at hok
  obtain ⟨dst, op, type, pos, after, guard⟩ := o
  simp only at hok hag hr
  have ev : ∀ x, x ∈ op.operands.toList → VR σ ((evC x).g T) (a.eval x) := fun x hx => ev_ok hT hG x (hok x hx)
  cases op <;> simp only [opC] at hr <;> first | (cases hr; done) | skip
  case move x => cases hr; exact ⟨_, a.eval x, w, σ, rfl, .inl rfl, ev x (by simp [Op.operands]), by rw [upd_refl]; exact Goes.refl hs⟩
  case assign x => cases hr; exact ⟨_, a.eval x, w, σ, rfl, .inl rfl, ev x (by simp [Op.operands]), by rw [upd_refl]; exact Goes.refl hs⟩
  case pick c x y =>
    have hc := ev c (by simp [Op.operands])
    generalize (evC c).g T = cv at hr hc
    cases cv <;> simp only at hr <;> first | (cases hr; done) | skip
    rename_i t
    have e := hc.bool_inv
    cases t with
    | true =>
      cases hr
      refine ⟨_, a.eval x, w, σ, ?_, .inl rfl, ev x (by simp [Op.operands]), by rw [upd_refl]; exact Goes.refl hs⟩
      show (asBool (a.eval c) >>= fun t => pure (Next.value (if t then a.eval x else a.eval y))).run P w = _
      rw [e]; rfl
    | false =>
      cases hr
      refine ⟨_, a.eval y, w, σ, ?_, .inl rfl, ev y (by simp [Op.operands]), by rw [upd_refl]; exact Goes.refl hs⟩
      show (asBool (a.eval c) >>= fun t => pure (Next.value (if t then a.eval x else a.eval y))).run P w = _
      rw [e]; rfl
  case alloc t =>
    cases hz : zeroB P t with
    | none => rw [hz] at hr; cases hr
    | some z =>
      rw [hz] at hr
      obtain ⟨z1, z2⟩ := zeroB_run hz w
      refine Does.next (s := Instr.alloc t true (.tuple #[])) ?_
      have hd := newRef_ok (P := P) hs hB hid (cellsL z) z t (constOk_VR z2).cells hr
      obtain ⟨v', w', τ, h1, h2, h3⟩ := hd
      refine ⟨v', w', τ, ?_, h2, h3⟩
      simp only [Instr.alloc, Sem.run_bind, z1, Result.andThen_ok]
      exact h1
  case box t x =>
    refine Does.next (s := Instr.box t (a.eval x)) ?_
    exact newRef_ok (P := P) hs hB hid _ (a.eval x) t (ev x (by simp [Op.operands])).cells hr
  case build t parts =>
    obtain ⟨rfl, hb⟩ := withH_some hr
    refine Does.next (s := Instr.build t (parts.map fun (i, x) => (i, a.eval x))) ?_
    rw [parts_arr]
    obtain ⟨p1, p2⟩ := parts_ok hT hG parts.toList fun p hp => hok p.2 (by simp [Op.operands]; exact ⟨p.1, by simpa using hp⟩)
    exact Does.pure hs (buildC_ok hb p1 p2 w)
  case buildSlice t len parts =>
    refine Does.next (s := Instr.buildSlice t len (parts.map fun (i, x) => (i, a.eval x))) ?_
    rw [parts_arr]
    obtain ⟨p1, p2⟩ := parts_ok hT hG parts.toList fun p hp => hok p.2 (by simp [Op.operands]; exact ⟨p.1, by simpa using hp⟩)
    exact buildSlice_ok hs hB hid hr p1 p2
  case load t x =>
    obtain ⟨rfl, hd⟩ := load_ok (P := P) hs (hag (.inl rfl) x (by simp [Op.operands])) (ev x (by simp [Op.operands])) hr
    exact (Does.pure hs hd).next
  case store t x y =>
    cases hz : sizeB P t with
    | none => rw [hz] at hr; cases hr
    | some n =>
      rw [hz] at hr
      obtain ⟨rfl, hn, w', h1, h2⟩ := store_ok (P := P) hz hs (hag (.inr rfl) x (by simp [Op.operands])) (ev x (by simp [Op.operands])) (ev y (by simp [Op.operands])) hr
      refine ⟨.skip, undef, w', σ, ?_, .inr ⟨rfl, rfl⟩, VR.undef, h2⟩
      show (do Instr.storeAt t (a.eval x) (a.eval y); pure Next.skip : Sem Next).run P w = _
      simp only [Sem.run_bind, h1, Result.andThen_ok, Sem.run_pure]
  case nilCheck x =>
    obtain ⟨rfl, hb⟩ := withH_some hr
    obtain ⟨h1, h2⟩ := nilCheck_ok (P := P) (w := w) hb (ev x (by simp [Op.operands])) ⟨dst, .nilCheck x, type, pos, after, guard⟩ x rfl a.eval rfl
    exact ⟨_, a.eval x, w, σ, h1, .inl rfl, h2, by rw [upd_refl]; exact Goes.refl hs⟩
  case binOp op t x y yt =>
    obtain ⟨rfl, hb⟩ := withH_some hr
    exact (Does.pure hs (binC_ok op t x y _ _ _ _ hb (ev x (by simp [Op.operands])) (ev y (by simp [Op.operands])) w)).next
  case unOp op t x =>
    obtain ⟨rfl, hb⟩ := withH_some hr
    exact (Does.pure hs (unA_ok op _ _ hb (ev x (by simp [Op.operands])) w)).next
  case convert s d x =>
    have hconv : ∀ e, P.underlying s = some (.slice e) → kindC P (.convert s d x) = 1 ∨ kindC P (.convert s d x) = 4 := by
      intro e he
      left
      unfold convC at hr
      unfold kindC
      split at hr
      · rename_i k hd
        rw [he] at hr
        cases hr
      · rename_i hd; simp only [hd, he]
      · rename_i hd; simp only [hd, he]
      · cases hr
    exact (conv_ok hs hB hid (fun ⟨e, he⟩ => hag (hconv e he) x (by simp [Op.operands])) (ev x (by simp [Op.operands])) hr).next
  case makeInterface t x =>
    cases hu : P.underlying t with
    | none => rw [hu] at hr; cases hr
    | some td =>
      rw [hu] at hr
      have hv : v = .iface t ((evC x).g T) ∧ H' = H ∧ (match td with | .interface _ => true | _ => false) = false := by
        cases td <;> first | (cases hr; done) | (cases hr; exact ⟨rfl, rfl, rfl⟩)
      obtain ⟨rfl, rfl, hni⟩ := hv
      refine Does.next (s := Instr.makeInterface t (a.eval x)) (Does.pure hs ⟨.iface t (a.eval x), ?_, .iface t _ _ (ev x (by simp [Op.operands])) .nil⟩)
      cases td <;> first | (cases hni; done) | (simp [Instr.makeInterface, run_underlying hu])
  case makeFunc fn first cap =>
    split at hr
    · rename_i f
      cases hr
      refine Does.next (s := Instr.makeFunc (.func f) (first.map a.eval) (cap.map a.eval)) (Does.pure hs ⟨_, rfl, ?_⟩)
      refine .func f _ _ _ _ ?_ ?_ .nil
      · have := evs_ok hT hG first.toList fun y hy => hok y (by simp [Op.operands]; exact .inl (by simpa using hy))
        simpa using this
      · have := evs_ok hT hG cap.toList fun y hy => hok y (by simp [Op.operands]; exact .inr (by simpa using hy))
        simpa using this
    · cases hr
  case makeSlice t x y =>
    exact (makeSlice_ok hs hB hid (ev x (by simp [Op.operands])) (ev y (by simp [Op.operands])) hr).next
  case slice t x lo hi mx =>
    obtain ⟨rfl, hb⟩ := withH_some hr
    exact (Does.pure hs (slice_ok hs (fun ⟨n, e, he⟩ => hag (.inl (by simp only [kindC, he])) x (by simp [Op.operands])) (ev x (by simp [Op.operands])) (vo_ok hT hG lo fun y e => hok y (by subst e; simp [Op.operands]))
      (vo_ok hT hG hi fun y e => hok y (by subst e; simp [Op.operands])) (vo_ok hT hG mx fun y e => hok y (by subst e; simp [Op.operands])) hb)).next
  case fieldAddr s x f =>
    obtain ⟨rfl, hb⟩ := withH_some hr
    exact (Does.pure hs (fieldAddr_ok (ev x (by simp [Op.operands])) hb w)).next
  case field t x f =>
    obtain ⟨rfl, hb⟩ := withH_some hr
    exact (Does.pure hs (field_ok (ev x (by simp [Op.operands])) hb w)).next
  case indexAddr t x i =>
    obtain ⟨rfl, hb⟩ := withH_some hr
    exact (Does.pure hs (indexAddr_ok (ev x (by simp [Op.operands])) (ev i (by simp [Op.operands])) hb w)).next
  case index t x i =>
    obtain ⟨rfl, hb⟩ := withH_some hr
    exact (Does.pure hs (index_ok (ev x (by simp [Op.operands])) (ev i (by simp [Op.operands])) hb w)).next
  case typeAssert x t at_ ok =>
    obtain ⟨rfl, hb⟩ := withH_some hr
    exact (Does.pure hs (typeAssert_ok (ev x (by simp [Op.operands])) hb w)).next
  case extract x i =>
    have hx := ev x (by simp [Op.operands])
    generalize (evC x).g T = xv at hr hx
    cases xv <;> simp only at hr <;> first | (cases hr; done) | skip
    rename_i vs
    obtain ⟨rfl, hb⟩ := withH_some hr
    obtain ⟨vs', e, hvs⟩ := hx.tuple_inv
    rw [atN_eq] at hb
    obtain ⟨v', q1, q2⟩ := hvs.get i v hb
    refine Does.next (s := Instr.extract (a.eval x) i) (Does.pure hs ⟨v', ?_, q2⟩)
    have : vs'[i]? = some v' := by simpa using q1
    rw [e]
    simp [Instr.extract, this]
  case call c =>
    split at hr
    case h_2 => cases hr
    case h_1 b hb =>
    have hl := evs_ok hT hG c.args.toList fun y hy => hok y (by simp [Op.operands, Call.operands]; exact .inr (by simpa using hy))
    have hd := builtin_ok (ty := type) (consts := c.args.map fun | .const _ => true | _ => false) (l' := c.args.map a.eval) hs hB hid (fun hbk x hx => by
      rw [evs_map] at hx
      obtain ⟨y, hy, rfl⟩ := List.mem_map.1 hx
      exact hag (.inr (by rcases hbk with e | e | e <;> simp only [kindC, hb, e])) y (by simp [Op.operands, Call.operands]; exact .inr (by simpa using hy))) (by simpa using hl) hr
    have e : execOp a.eval ⟨dst, .call c, type, pos, after, guard⟩ = builtin b c.argTypes type (c.args.map fun | .const _ => true | _ => false) (c.args.map a.eval) := by
      simp only [execOp, resolve, hb]
      rfl
    rw [e]
    exact hd
end
end Go.Ab
