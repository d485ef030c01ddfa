import Derived.Test.YtccblhllmplmaaaAbObj
import Derived.OrdersIn
import Derived.RangeFuncLeaves
import Derived.LoopNIn
namespace Go.Ab
open Go

/-- no fence; the round's record, if this is the frame of one -/
abbrev Wd (r : Option Nat) : Fence := { fn := fun _ => True, depth := none, alive := false, round := r }
theorem wd_room (r : Option Nat) (k : Nat) : (Wd r).room k := fun _ h => by cases h

/-- what is asked of a program -/
structure Good (P : Program) : Prop where
  num : ∀ (f : Nat) (fn : Func), P.funcs[f]? = some fn → fn.name ≠ "runtime.NumGoroutine"
  mixed : P.follows .mixedOrders = true

section
variable {P : Program} {B : Nat} {σ : Loc} {h : Nat → Option Obj} {H H' : Heap} {w : World}

structure Known (P : Program) (B : Nat) (σ : Loc) (h : Nat → Option Obj) (H : Heap) (w : World) : Prop where
  sim : SimO σ B h w
  sub : SubO H h
  hB : B ≤ w.heap.size
  glob : GlobOk P σ
  wf : WfO H
  fl : H.floor ≤ H.next

structure Stp (B : Nat) (σ : Loc) (h : Nat → Option Obj) (H : Heap) (w : World) (τ : Loc) (h' : Nat → Option Obj) (H' : Heap) (w' : World) : Prop where
  goes : GoesO B σ h H.next w τ h' H'.next w'
  sub : SubO H' h'
  ch : ∀ id b, updO h H H' id = some b → h' id = some b
  mo : MoO H H'

def Fresh (σ : Loc) (n n' : Nat) : Prop := ∀ i, n ≤ i → i < n' → σ i = none

theorem Known.next {τ : Loc} {h' : Nat → Option Obj} {w' : World} (k : Known P B σ h H w) (s : Stp B σ h H w τ h' H' w') : Known P B τ h' H' w' := by
  refine ⟨s.goes.sim, s.sub, Nat.le_trans k.hB s.goes.size, fun g hg => ?_, s.mo.wfo k.wf, s.mo.wf k.fl⟩
  · obtain ⟨z, hz⟩ := k.glob g hg
    exact ⟨z, s.goes.mono _ _ hz⟩
theorem Stp.refl (k : Known P B σ h H w) : Stp B σ h H w σ h H w := ⟨GoesO.refl k.sim, k.sub, fun id b hb => by rwa [updO_refl] at hb, MoO.refl H⟩
theorem Stp.drew (k : Known P B σ h H w) (d : Nat) : Stp B σ h H w σ h H { w with drawn := d } := ⟨GoesO.drew k.sim d, k.sub, fun id b hb => by rwa [updO_refl] at hb, MoO.refl H⟩

theorem updO_trans {h1 h2 : Nat → Option Obj} {H1 H2 : Heap} (hs : SimO σ B h w) (hsub : SubO H h) (hfr : Fresh σ H.next H1.next) (m1 : MoO H H1)
    (c1 : ∀ id b, updO h H H1 id = some b → h1 id = some b) (c2 : ∀ id b, updO h1 H1 H2 id = some b → h2 id = some b) : ∀ id b, updO h H H2 id = some b → h2 id = some b := by
  intro id b hb
  refine c2 id b ?_
  by_cases e2 : H2.getO id = H1.getO id
  · have : updO h1 H1 H2 id = h1 id := by unfold updO; rw [if_pos e2]
    rw [this]
    refine c1 id b ?_
    unfold updO at hb ⊢
    rw [e2] at hb
    exact hb
  · have : updO h1 H1 H2 id = H2.getO id := by unfold updO; rw [if_neg e2]
    rw [this]
    unfold updO at hb
    split at hb
    · rename_i e
      rw [e]
      cases hg : H.getO id with
      | some b0 => have := hsub id b0 hg; rw [this] at hb; exact hb
      | none =>
        exfalso
        have h1n : H1.getO id ≠ none := fun h0 => e2 (by rw [e, hg, h0])
        have := m1.cr id hg h1n
        have hσ := hfr id this.1 this.2
        obtain ⟨c, o, s, g1⟩ := (hs.blk id b hb).loc
        rw [hσ] at g1; cases g1
    · exact hb

theorem Stp.trans {τ υ : Loc} {h1 h2 : Nat → Option Obj} {H1 H2 : Heap} {w1 w2 : World} (k : Known P B σ h H w) (hfr : Fresh σ H.next H1.next) (a : Stp B σ h H w τ h1 H1 w1) (b : Stp B τ h1 H1 w1 υ h2 H2 w2) :
    Stp B σ h H w υ h2 H2 w2 :=
  ⟨a.goes.trans b.goes, b.sub, updO_trans k.sim k.sub hfr a.mo a.ch b.ch, a.mo.trans b.mo⟩

theorem Fresh.left {n n1 n2 : Nat} (f : Fresh σ n n2) (h1 : n1 ≤ n2) : Fresh σ n n1 := fun i a b => f i a (Nat.lt_of_lt_of_le b h1)
theorem Fresh.right {τ : Loc} {h1 : Nat → Option Obj} {n n1 n2 : Nat} {w w1 : World} (f : Fresh σ n n2) (g : GoesO B σ h n w τ h1 n1 w1) : Fresh τ n1 n2 := fun i a b => by
  rw [g.ext i (.inr a)]; exact f i (Nat.le_trans g.le a) b

theorem Stp.of_does {τ : Loc} {w' : World} (k : Known P B σ h H w) (g : GoesO B σ h H.next w τ (updO h H H') H'.next w') (m : MoO H H') : Stp B σ h H w τ (updO h H H') H' w' :=
  ⟨g, k.sub.upd, fun _ _ hb => hb, m⟩

def exOf : Ex → Exit
  | .normal => .normal
  | .exit id => .exit id
  | .ret => .ret

/-- the marks that ranges over functions have left among an activation's deferred calls -/
structure Marks (τ : Loc) (h' : Nat → Option Obj) (H' : Heap) (lo : Nat) (ms : List Deferred) : Prop where
  each : ∀ d ∈ ms, ∃ id c o s, d.target = .collected c ∧ τ id = some (c, o, s) ∧ h' id = some .dfr ∧ H'.getO id = none ∧ lo ≤ id ∧ id < H'.next
  apart : ms.Pairwise fun d e => d.target ≠ e.target

/-- the state behind a piece of code -/
def PostQ (B : Nat) (σ : Loc) (h : Nat → Option Obj) (H : Heap) (w : World) (ds : List Deferred) (out : Out) : Exit → Act → World → Prop :=
  fun e a' w' => e = exOf out.ex ∧ ∃ ms τ h', a'.defers = ms ++ ds ∧ Marks τ h' out.H H.next ms ∧ VRs τ out.T a'.tmps.toList ∧ Stp B σ h H w τ h' out.H w'

def heapOf : Task → Heap
  | .loop _ _ _ H => H
  | .call _ _ H => H
  | .round _ _ H => H
/-! what is asked of 'self' -/
structure SelfOk (P : Program) (me : Self) : Prop where
  mo : ∀ t out, me t = some out → (heapOf t).floor ≤ (heapOf t).next → MoO (heapOf t) out.H
  call : ∀ f args H ex v H', me (.call f args H) = some ⟨ex, [v], H'⟩ → ∀ (B : Nat) (σ : Loc) (h : Nat → Option Obj) (w : World) (args' : Array Value), Known P B σ h H w → Fresh σ H.next H'.next → VRs σ args args'.toList →
    (∃ fn c, P.funcs[f]? = some fn ∧ fn.body = some c) ∧ CallsIn (Wd none) 0 P f args' w (fun e w' => ∃ v' τ h', e = .returned v' ∧ VR τ v v' ∧ Stp B σ h H w τ h' H' w')
  round : ∀ l args H ex v H', me (.round l args H) = some ⟨ex, [v], H'⟩ → ∀ (B : Nat) (σ : Loc) (h : Nat → Option Obj) (w : World) (args' : Array Value) (c o s : Nat) (r : Option Nat), Known P B σ h H w → Fresh σ H.next H'.next → VRs σ args args'.toList → σ l = some (c, o, s) →
    ∃ fn tmps asg body, (Instr.yield c args').run P w = .ok (.round c fn tmps asg body) w ∧ RoundIn (Wd r) 0 P c fn tmps asg body w (fun e w' => ∃ v' τ h', e = .returned v' ∧ VR τ v v' ∧ Stp B σ h H w τ h' H' w')
  loop : ∃ n, ∀ top c T H out, me (.loop top c T H) = some out → ∀ (B : Nat) (σ : Loc) (h : Nat → Option Obj) (w : World) (a : Act) (r : Option Nat), (top = true → r = none) → Known P B σ h H w → Fresh σ H.next out.H.next → VRs σ T a.tmps.toList →
    Code.roundsIn (Wd r) 0 P c (PostQ B σ h H w a.defers out) n a w

theorem wanted_eq {ops : Array Oper} {T : List Value} {a : Act} (hT : VRs σ T a.tmps.toList) (o : Oper) : Region.wanted o (yielded ops a.tmps) = (wantedC ops.toList o.guard).f T := by
  unfold Region.wanted wantedC
  cases o.guard with
  | none => rfl
  | some jw =>
    obtain ⟨j, want⟩ := jw
    simp only [yielded]
    have e : ops.toList[j]? = ops[j]? := by simp
    rw [e]
    cases hd : (ops[j]?).bind (·.dst) with
    | none => rfl
    | some d =>
      simp only [Option.bind_some, nth_eq]
      cases hv : T[d]? with
      | none =>
        have : a.tmps[d]? = none := by
          have h1 := List.getElem?_eq_none_iff.1 hv
          have h2 := hT.length
          apply Array.getElem?_eq_none
          have h3 : a.tmps.toList.length = a.tmps.size := Array.length_toList
          omega
        rw [this]
        simp [List.getD_eq_getElem?_getD, hv, undef]
      | some v =>
        obtain ⟨v', h1, h2⟩ := hT.get d v hv
        have : a.tmps[d]? = some v' := by simpa using h1
        rw [this]
        simp only [List.getD_eq_getElem?_getD, hv, Option.getD_some]
        cases h2 <;> first | rfl | (cases want <;> simp)

theorem put_ok {T : List Value} {a : Act} (hT : VRs σ T a.tmps.toList) (d : Option Tmp) {v v' : Value} (hv : VR σ v v') : VRs σ (putT T d v) (a.put d v').tmps.toList ∧ (a.put d v').defers = a.defers := by
  cases d with
  | none => exact ⟨hT, rfl⟩
  | some d =>
    refine ⟨?_, rfl⟩
    show VRs σ (setN T d v) (a.tmps.setIfInBounds d v').toList
    rw [setN_eq, Array.toList_setIfInBounds]
    exact hT.set d hv

theorem callFunc_enter (hP : Good P) {f : FuncId} {fn : Func} {c : Code} (hf : P.funcs[f]? = some fn) (hb : fn.body = some c) (args : Array Value) (w : World) : (callFunc f args).run P w = .ok (.enter f args) w := by
  have hn := hP.num f fn hf
  unfold callFunc
  simp only [Sem.run_bind, run_program, Result.andThen_ok, hf]
  have : (fn.name == "runtime.NumGoroutine") = false := by simpa using hn
  simp [this, hb]

theorem method_run {t : TypeId} {name : String} {f : FuncId} {ptr : Bool} (hm : methodOf P t name = some (f, ptr)) (hp : isPtrT P t = some ptr) (v : Value) (w : World) (n : Nat) :
    (method (n + 1) t v name).run P w = .ok (f, v) w := by
  unfold methodOf at hm
  cases hi : P.info? t with
  | none => rw [hi] at hm; cases hm
  | some i =>
    rw [hi] at hm
    simp only at hm
    cases hf : i.methods.toList.find? (fun m => m.name == name) with
    | none => rw [hf] at hm; cases hm
    | some m =>
      rw [hf] at hm
      simp only at hm
      cases hpath : m.path.toList with
      | cons _ _ => rw [hpath] at hm; cases hm
      | nil =>
        rw [hpath] at hm
        simp only at hm
        have hf' : i.methods.find? (fun m => m.name == name) = some m := by rw [← Array.find?_toList]; exact hf
        unfold isPtrT at hp
        have hu : ∃ d, P.underlying t = some d ∧ (match d with | .pointer _ => true | _ => false) = ptr := by
          cases hu : P.underlying t with
          | none => rw [hu] at hp; cases hp
          | some d => refine ⟨d, rfl, ?_⟩; rw [hu] at hp; cases d <;> first | (cases hp; rfl) | (simp at hp; exact hp)
        obtain ⟨d, hu, hd⟩ := hu
        unfold method
        have hti : (typeInfo t).run P w = .ok i w := by simp [typeInfo, hi]
        simp only [Sem.run_bind, hti, Result.andThen_ok, hf', hpath, follow, Sem.run_pure, hm, receiverAt, run_underlying hu]
        cases ptr with
        | true =>
          cases d <;> first | (cases hd; done) | skip
          simp [Place.get]
        | false =>
          cases d <;> first | (cases hd; done) | (simp [Place.get])
end
end Go.Ab
