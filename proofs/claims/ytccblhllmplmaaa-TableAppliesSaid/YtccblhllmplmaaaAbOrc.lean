import Derived.Test.YtccblhllmplmaaaAbFin
namespace Go.Ab
open Go
set_option linter.unusedVariables false
set_option linter.unusedSectionVars false

theorem Below.size' {w w' : World} (h : RowKit.Below w.heap.size w w') : w.heap.size ≤ w'.heap.size := h.size
/-- a call that has no argument, and answers true -/
theorem closed_in {P : Program} (hP : goodB P = true) {n : Nat} {f : FuncId} (hr : isTrueB (run P n (.call f [] (start P.globals.size))) = true) :
    (∃ fn c, P.funcs[f]? = some fn ∧ fn.body = some c) ∧ ∀ w, CallsIn (Wd none) 0 P f #[] w (fun e w' => e = .returned (.bool true) ∧ RowKit.Below w.heap.size w w') := by
  unfold isTrueB at hr
  split at hr
  case h_2 => cases hr
  case h_1 o ex l H' hrun =>
  split at hr
  case h_2 => cases hr
  case h_1 v =>
  split at hr
  case h_2 => cases hr
  case h_1 b =>
  subst hr
  have key : ∀ w : World, (∃ fn c, P.funcs[f]? = some fn ∧ fn.body = some c) ∧ CallsIn (Wd none) 0 P f #[] w (fun e w' => e = .returned (.bool true) ∧ RowKit.Below w.heap.size w w') := by
    intro w
    obtain ⟨h1, h2⟩ := (run_ok (good_of hP) n).call f [] _ ex (.bool true) H' hrun w.heap.size _ _ w #[] (known0 P w) (fun i h1 _ => by
      have : ¬ i < P.globals.size := Nat.not_lt.2 h1
      simp [loc0, this]) .nil
    refine ⟨h1, CallsIn.mono h2 ?_⟩
    rintro e w' ⟨v', τ, h', rfl, hv, hs⟩
    cases hv
    refine ⟨rfl, hs.goes.os, hs.goes.tape, hs.goes.output, hs.goes.size, fun k hk => hs.goes.keep k hk ?_⟩
    rintro ⟨id, b, _, _, hb, _⟩
    cases hb
  exact ⟨(key default).1, fun w => (key w).2⟩

/-! values without an address -/
def flat1 : Value → Bool
  | .bool _ => true
  | .int _ _ => true
  | .string _ => true
  | .nilFunc => true
  | .nilIface => true
  | _ => false
def flat2 : Value → Bool
  | .agg cs => cs.toList.all flat1
  | v => flat1 v
def flat3 : Value → Bool
  | .tuple vs => vs.toList.all flat2
  | v => flat2 v
theorem VRs.flat1 {σ : Loc} : ∀ {xs ys : List Value}, VRs σ xs ys → xs.all flat1 = true → ys = xs
  | [], ys, h, _ => h.nil_inv
  | x :: xs, ys, h, hf => by
    rw [List.all_cons, Bool.and_eq_true] at hf
    obtain ⟨y, r, rfl, h1, h2⟩ := h.uncons
    rw [h2.flat1 hf.2]
    have hf := hf.1
    cases x <;> first | (cases hf; done) | (cases h1; rfl)
theorem flat1_VRs {σ : Loc} : ∀ {xs : List Value}, xs.all Ab.flat1 = true → VRs σ xs xs
  | [], _ => .nil
  | x :: xs, hf => by
    rw [List.all_cons, Bool.and_eq_true] at hf
    have r := flat1_VRs (σ := σ) hf.2
    have hf := hf.1
    cases x <;> first | (cases hf; done) | skip
    · exact .bool _ r
    · exact .int _ _ r
    · exact .string _ r
    · exact .nilFunc r
    · exact .nilIface r
theorem VRs.flat2 {σ : Loc} : ∀ {xs ys : List Value}, VRs σ xs ys → xs.all Ab.flat2 = true → ys = xs
  | [], ys, h, _ => h.nil_inv
  | x :: xs, ys, h, hf => by
    rw [List.all_cons, Bool.and_eq_true] at hf
    obtain ⟨y, r, rfl, h1, h2⟩ := h.uncons
    rw [h2.flat2 hf.2]
    have hf := hf.1
    cases x <;> first | (cases hf; done) | skip
    case agg cs _ =>
      obtain ⟨x', hx', e⟩ : ∃ x' : Array Value, VRs σ cs.toList x'.toList ∧ y = .agg x' := by cases h1; exact ⟨_, by assumption, rfl⟩
      rw [e, show x' = cs from Array.ext' (VRs.flat1 hx' hf)]
    all_goals (cases h1; rfl)
theorem flat2_VRs {σ : Loc} : ∀ {xs : List Value}, xs.all Ab.flat2 = true → VRs σ xs xs
  | [], _ => .nil
  | x :: xs, hf => by
    rw [List.all_cons, Bool.and_eq_true] at hf
    have r := flat2_VRs (σ := σ) hf.2
    have hf := hf.1
    cases x <;> first | (cases hf; done) | skip
    case agg cs _ => exact .agg _ _ (flat1_VRs hf) r
    · exact .bool _ r
    · exact .int _ _ r
    · exact .string _ r
    · exact .nilFunc r
    · exact .nilIface r
theorem VR.flat3 {σ : Loc} {x y : Value} (h : VR σ x y) (hf : Ab.flat3 x = true) : y = x := by
  cases x <;> first | (cases hf; done) | skip
  case tuple cs =>
    obtain ⟨x', hx', e⟩ : ∃ x' : Array Value, VRs σ cs.toList x'.toList ∧ y = .tuple x' := by cases h; exact ⟨_, by assumption, rfl⟩
    rw [e, show x' = cs from Array.ext' (VRs.flat2 hx' hf)]
  all_goals
    have e := VRs.flat2 h (by rw [List.all_cons, Bool.and_eq_true]; exact ⟨hf, rfl⟩)
    injection e
theorem flat3_VR {σ : Loc} {x : Value} (hf : Ab.flat3 x = true) : VR σ x x := by
  cases x <;> first | (cases hf; done) | skip
  case tuple cs => exact .tuple _ _ (flat2_VRs hf) .nil
  all_goals exact flat2_VRs (by rw [List.all_cons, Bool.and_eq_true]; exact ⟨hf, rfl⟩)

/-- calls of which it is known what they answer, and that they leave what was there -/
class Orc where
  tab : FuncId → List Value → Heap → Option Value
/-- one function, that has no argument and answers true -/
@[reducible] noncomputable def orc1 (g : FuncId) : Orc := ⟨fun f args _ => cond (Nat.beq f g && Nat.beq (lenN args) 0) (some (.bool true)) none⟩
noncomputable def stepO [Orc] (P : Program) (self : Self) (t : Task) : Option Out := match t with
  | .call f args H => match Orc.tab f args H with
    | some v => some ⟨.ret, [v], H⟩
    | none => step P self (.call f args H)
  | t => step P self t
noncomputable def runO [Orc] (P : Program) (n : Nat) : Self := Nat.rec (motive := fun _ => Self) (fun _ => none) (fun _ ih t => stepO P ih t) n
def OrcGood (P : Program) (f : FuncId) (args : List Value) (H : Heap) (v : Value) : Prop :=
  ∀ (B : Nat) (σ : Loc) (h : Nat → Option Obj) (w : World) (args' : Array Value), Known P B σ h H w → VRs σ args args'.toList →
    (∃ fn c, P.funcs[f]? = some fn ∧ fn.body = some c) ∧ CallsIn (Wd none) 0 P f args' w (fun e w' => ∃ v', e = .returned v' ∧ VR σ v v' ∧ RowKit.Below w.heap.size w w')
def OrcOk [Orc] (P : Program) : Prop := ∀ f args H v, Orc.tab f args H = some v → OrcGood P f args H v

section
variable {P : Program} [Orc]
omit [Orc] in
theorem SimO.below {σ : Loc} {B : Nat} {h : Nat → Option Obj} {w w' : World} (hs : SimO σ B h w) (hb : RowKit.Below w.heap.size w w') : SimO σ B h w' := by
  refine ⟨fun id b hi => ?_, hs.own, hs.excl⟩
  have ho := hs.blk id b hi
  have hk := fun c o s (hc : σ id = some (c, o, s)) => (ho.kind hc).2
  cases b with
  | cells x =>
    obtain ⟨c, o, s, arr, ty, fr, h1, h2, h3⟩ := ho
    exact ⟨c, o, s, arr, ty, fr, h1, by rw [hb.block c (hk _ _ _ h1)]; exact h2, h3⟩
  | loop x =>
    obtain ⟨c, o, s, L, h1, h2, h3⟩ := ho
    exact ⟨c, o, s, L, h1, by rw [hb.block c (hk _ _ _ h1)]; exact h2, h3⟩
  | dfr =>
    obtain ⟨c, o, s, h1, h2⟩ := ho
    exact ⟨c, o, s, h1, by rw [hb.block c (hk _ _ _ h1)]; exact h2⟩
theorem stepO_ok (hP : Good P) (ho : OrcOk P) {me : Self} (hS : SelfOk P me) : SelfOk P (stepO P me) := by
  have s := step_ok hP hS
  refine ⟨?_, ?_, fun l args H ex v H' hr => s.round l args H ex v H' hr, ?_⟩
  · intro t out hr hf
    cases t with
    | loop top c T H => exact s.mo (.loop top c T H) out hr hf
    | round l args H => exact s.mo (.round l args H) out hr hf
    | call f args H =>
      have hr : (match Orc.tab f args H with | some v => some ⟨.ret, [v], H⟩ | none => step P me (.call f args H)) = some out := hr
      split at hr
      · cases hr; exact MoO.refl H
      · exact s.mo (.call f args H) out hr hf
  · intro f args H ex v H' hr B σ h w args' k hfr hv
    have hr : (match Orc.tab f args H with | some v => some ⟨.ret, [v], H⟩ | none => step P me (.call f args H)) = some ⟨ex, [v], H'⟩ := hr
    split at hr
    · rename_i v0 hi
      cases hr
      obtain ⟨h1, h2⟩ := ho f args _ _ hi B σ h w args' k hv
      refine ⟨h1, CallsIn.mono h2 ?_⟩
      rintro e w' ⟨v', rfl, hv', hb⟩
      refine ⟨_, σ, h, rfl, hv', ⟨k.sim.below hb, Nat.le_refl _, fun _ _ => rfl, fun _ _ h => h, hb.os, hb.tape, hb.output, hb.size, fun c hc _ => hb.block c hc, fun _ h _ => h⟩, k.sub, fun id b hb => by rwa [updO_refl] at hb, MoO.refl H⟩
    · exact s.call f args H ex v H' hr B σ h w args' k hfr hv
  · exact s.loop
theorem runO_ok (hP : Good P) (ho : OrcOk P) : ∀ n, SelfOk P (runO P n)
  | 0 => ⟨fun _ _ h => (by cases h), fun _ _ _ _ _ _ h => (by cases h), fun _ _ _ _ _ _ h => (by cases h), 0, fun _ _ _ _ _ h => (by cases h)⟩
  | n + 1 => stepO_ok hP ho (runO_ok hP ho n)

end
section
variable {P : Program}
/-- what a call does from the start, with arguments that have no address, it does anywhere -/
theorem orc_flat [Orc] (hP : goodB P = true) (ho : OrcOk P) {n : Nat} {f : FuncId} {args : List Value} {ex : Ex} {v : Value} {H' : Heap} (hr : runO P n (.call f args (start P.globals.size)) = some ⟨ex, [v], H'⟩) (ha : args.all flat2 = true) (hv : flat3 v = true) (H : Heap) : OrcGood P f args H v := by
  intro B σ h w args' k hva
  obtain ⟨h1, h2⟩ := (runO_ok (good_of hP) ho n).call f args _ ex v H' hr w.heap.size _ _ w args' (known0 P w) (fun i h1 _ => by
    have : ¬ i < P.globals.size := Nat.not_lt.2 h1
    simp [loc0, this]) (by rw [hva.flat2 ha]; exact flat2_VRs ha)
  refine ⟨h1, CallsIn.mono h2 ?_⟩
  rintro e w' ⟨v', τ, h', rfl, hv', hs⟩
  rw [hv'.flat3 hv]
  refine ⟨_, rfl, flat3_VR hv, hs.goes.os, hs.goes.tape, hs.goes.output, hs.goes.size, fun k hk => hs.goes.keep k hk ?_⟩
  rintro ⟨id, b, _, _, hb, _⟩
  cases hb
theorem orc_closed [Orc] (hP : goodB P = true) (ho : OrcOk P) {n : Nat} {f : FuncId} (hr : isTrueB (runO P n (.call f [] (start P.globals.size))) = true) (H : Heap) : OrcGood P f [] H (.bool true) := by
  unfold isTrueB at hr
  split at hr
  case h_2 => cases hr
  case h_1 o ex l H' hrun =>
  split at hr
  case h_2 => cases hr
  case h_1 v =>
  split at hr
  case h_2 => cases hr
  case h_1 b =>
  subst hr
  exact orc_flat hP ho hrun rfl rfl H
/-- nothing is known -/
@[reducible] def orc0 : Orc := ⟨fun _ _ _ => none⟩
theorem orc0_ok : @OrcOk orc0 P := fun _ _ _ _ h => (by cases h)
theorem orc1_ok {g : FuncId} (h : ∀ H, OrcGood P g [] H (.bool true)) : @OrcOk (orc1 g) P := by
  intro f args H v hf
  have hf : cond (Nat.beq f g && Nat.beq (lenN args) 0) (some (Value.bool true)) none = some v := hf
  cases hc : Nat.beq f g && Nat.beq (lenN args) 0 with
  | false => rw [hc] at hf; cases hf
  | true =>
    rw [hc] at hf
    cases hf
    rw [Bool.and_eq_true, lenN_eq] at hc
    have e1 := Nat.eq_of_beq_eq_true hc.1
    have e2 : args = [] := List.length_eq_zero_iff.1 (Nat.eq_of_beq_eq_true hc.2)
    subst e1 e2
    exact h H
/-- what functions without arguments answer -/
noncomputable def lookF (l : List (FuncId × Value)) (f : FuncId) : Option Value := List.rec (motive := fun _ => Option Value) none (fun p _ ih => cond (Nat.beq p.1 f) (some p.2) ih) l
@[reducible] noncomputable def orcL (l : List (FuncId × Value)) : Orc := ⟨fun f args _ => cond (Nat.beq (lenN args) 0) (lookF l f) none⟩
theorem lookF_mem {l : List (FuncId × Value)} {f : FuncId} {v : Value} (h : lookF l f = some v) : (f, v) ∈ l := by
  induction l with
  | nil => cases h
  | cons p r ih =>
    have h : cond (Nat.beq p.1 f) (some p.2) (lookF r f) = some v := h
    cases hc : Nat.beq p.1 f with
    | true =>
      rw [hc] at h
      cases h
      rw [← Nat.eq_of_beq_eq_true hc]
      exact List.mem_cons_self
    | false => rw [hc] at h; exact List.mem_cons_of_mem _ (ih h)
theorem orcL_ok {l : List (FuncId × Value)} (h : ∀ p ∈ l, ∀ H, OrcGood P p.1 [] H p.2) : @OrcOk (orcL l) P := by
  intro f args H v hf
  have hf : cond (Nat.beq (lenN args) 0) (lookF l f) none = some v := hf
  cases hc : Nat.beq (lenN args) 0 with
  | false => rw [hc] at hf; cases hf
  | true =>
    rw [hc] at hf
    rw [lenN_eq] at hc
    have e2 : args = [] := List.length_eq_zero_iff.1 (Nat.eq_of_beq_eq_true hc)
    subst e2
    exact h _ (lookF_mem hf) H
def AllGood (P : Program) (l : List (FuncId × Value)) : Prop := ∀ p ∈ l, ∀ H, OrcGood P p.1 [] H p.2
theorem AllGood.nil : AllGood P [] := fun _ h => (by cases h)
theorem AllGood.cons {f : FuncId} {v : Value} {l : List (FuncId × Value)} (h : ∀ H, OrcGood P f [] H v) (hl : AllGood P l) : AllGood P ((f, v) :: l) := by
  intro p hp
  rcases List.mem_cons.1 hp with rfl | hp
  · exact h
  · exact hl p hp
noncomputable def outV (o : Option Out) : Option Value := match o with
  | some ⟨_, l, _⟩ => match l with
    | [v] => some v
    | _ => none
  | none => none
theorem orc_val [Orc] (hP : goodB P = true) (ho : OrcOk P) {n : Nat} {f : FuncId} {v : Value} (hr : outV (runO P n (.call f [] (start P.globals.size))) = some v) (hv : flat3 v = true) (H : Heap) : OrcGood P f [] H v := by
  unfold outV at hr
  split at hr
  case h_2 => cases hr
  case h_1 o ex l H' hrun =>
  split at hr
  case h_2 => cases hr
  case h_1 v' =>
  cases hr
  exact orc_flat hP ho hrun rfl hv H
/-- those, and a function of values without an address -/
@[reducible] noncomputable def orcF (l : List (FuncId × Value)) (g : FuncId) (F : List Value → Option Value) : Orc := ⟨fun f args _ => cond (Nat.beq f g) (F args) (cond (Nat.beq (lenN args) 0) (lookF l f) none)⟩
theorem orcF_ok {l : List (FuncId × Value)} {g : FuncId} {F : List Value → Option Value} (h : AllGood P l) (hF : ∀ args v, F args = some v → ∀ H, OrcGood P g args H v) : @OrcOk (orcF l g F) P := by
  intro f args H v hf
  have hf : cond (Nat.beq f g) (F args) (cond (Nat.beq (lenN args) 0) (lookF l f) none) = some v := hf
  cases hc : Nat.beq f g with
  | true =>
    rw [hc] at hf
    rw [Nat.eq_of_beq_eq_true hc]
    exact hF args v hf H
  | false =>
    rw [hc] at hf
    exact orcL_ok h f args H v hf
/-- a law's call, closed -/
theorem closedO_true [Orc] (hP : goodB P = true) (ho : OrcOk P) {n : Nat} {f : FuncId} (hr : isTrueB (runO P n (.call f [] (start P.globals.size))) = true) (w : World) :
    Calls P f #[] w fun e w' => e = .returned (.bool true) ∧ RowKit.Below w.heap.size w w' := by
  refine (CallsIn.calls (orc_closed hP ho hr (start P.globals.size) w.heap.size _ _ w #[] (known0 P w) .nil).2 (wd_room none)).mono ?_
  rintro e w' ⟨v', rfl, hv, hb⟩
  cases hv
  exact ⟨rfl, hb⟩
end
end Go.Ab
