import Derived.Test.YtkfbmfhfbfgojaaAbFin
namespace Go.Ab
open Go
set_option linter.unusedVariables false

theorem Below.size' {w w' : World} (h : RowKit.Below w.heap.size w w') : w.heap.size ≤ w'.heap.size := h.size
/-- a call that has no argument, and answers true -/
theorem closed_in {P : Program} (hP : goodB P = true) {n : Nat} {f : FuncId} (hr : isTrueB (run P n (.call f [] (start P.globals.size))) = true) :
    (∃ fn c, P.funcs[f]? = some fn ∧ fn.body = some c) ∧ ∀ w, CallsIn (Wd none) 0 P f #[] w (fun e w' => e = .returned (.bool true) ∧ RowKit.Below w.heap.size w w') := by
  unfold isTrueB at hr
  split at hr
  case h_2 => cases hr
  case h_1 o ex l H' hrun =>
  split at hr
  case h_2 => cases hr
  case h_1 v =>
  split at hr
  case h_2 => cases hr
  case h_1 b =>
  subst hr
  have key : ∀ w : World, (∃ fn c, P.funcs[f]? = some fn ∧ fn.body = some c) ∧ CallsIn (Wd none) 0 P f #[] w (fun e w' => e = .returned (.bool true) ∧ RowKit.Below w.heap.size w w') := by
    intro w
    obtain ⟨h1, h2⟩ := (run_ok (good_of hP) n).call f [] _ ex (.bool true) H' hrun w.heap.size _ _ w #[] (known0 P w) (fun i h1 _ => by
      have : ¬ i < P.globals.size := Nat.not_lt.2 h1
      simp [loc0, this]) .nil
    refine ⟨h1, CallsIn.mono h2 ?_⟩
    rintro e w' ⟨v', τ, h', rfl, hv, hs⟩
    cases hv
    refine ⟨rfl, hs.goes.os, hs.goes.tape, hs.goes.output, hs.goes.size, fun k hk => hs.goes.keep k hk ?_⟩
    rintro ⟨id, b, _, _, hb, _⟩
    cases hb
  exact ⟨(key default).1, fun w => (key w).2⟩

/-- a function of which it is known that it answers true, and leaves what was there -/
class Orc where
  g : Option FuncId
noncomputable def isOrc [Orc] (f : FuncId) (args : List Value) : Bool := match Orc.g with
  | some g => Nat.beq f g && Nat.beq (lenN args) 0
  | none => false
noncomputable def stepO [Orc] (P : Program) (self : Self) (t : Task) : Option Out := match t with
  | .call f args H => match isOrc f args with
    | true => some ⟨.ret, [.bool true], H⟩
    | false => step P self (.call f args H)
  | t => step P self t
noncomputable def runO [Orc] (P : Program) (n : Nat) : Self := Nat.rec (motive := fun _ => Self) (fun _ => none) (fun _ ih t => stepO P ih t) n
def OrcOk [Orc] (P : Program) : Prop := ∀ g, Orc.g = some g → (∃ fn c, P.funcs[g]? = some fn ∧ fn.body = some c) ∧ ∀ w, CallsIn (Wd none) 0 P g #[] w (fun e w' => e = .returned (.bool true) ∧ RowKit.Below w.heap.size w w')

section
variable {P : Program} [Orc]
omit [Orc] in
theorem SimO.below {σ : Loc} {B : Nat} {h : Nat → Option Obj} {w w' : World} (hs : SimO σ B h w) (hb : RowKit.Below w.heap.size w w') : SimO σ B h w' := by
  refine ⟨fun id b hi => ?_, hs.own, hs.excl⟩
  have ho := hs.blk id b hi
  have hk := fun c o s (hc : σ id = some (c, o, s)) => (ho.kind hc).2
  cases b with
  | cells x =>
    obtain ⟨c, o, s, arr, ty, fr, h1, h2, h3⟩ := ho
    exact ⟨c, o, s, arr, ty, fr, h1, by rw [hb.block c (hk _ _ _ h1)]; exact h2, h3⟩
  | loop x =>
    obtain ⟨c, o, s, L, h1, h2, h3⟩ := ho
    exact ⟨c, o, s, L, h1, by rw [hb.block c (hk _ _ _ h1)]; exact h2, h3⟩
  | dfr =>
    obtain ⟨c, o, s, h1, h2⟩ := ho
    exact ⟨c, o, s, h1, by rw [hb.block c (hk _ _ _ h1)]; exact h2⟩
theorem stepO_ok (hP : Good P) (ho : OrcOk P) {me : Self} (hS : SelfOk P me) : SelfOk P (stepO P me) := by
  have s := step_ok hP hS
  refine ⟨?_, ?_, fun l args H ex v H' hr => s.round l args H ex v H' hr, ?_⟩
  · intro t out hr hf
    cases t with
    | loop top c T H => exact s.mo (.loop top c T H) out hr hf
    | round l args H => exact s.mo (.round l args H) out hr hf
    | call f args H =>
      have hr : (match isOrc f args with | true => some ⟨.ret, [.bool true], H⟩ | false => step P me (.call f args H)) = some out := hr
      split at hr
      · cases hr; exact MoO.refl H
      · exact s.mo (.call f args H) out hr hf
  · intro f args H ex v H' hr B σ h w args' k hfr hv
    have hr : (match isOrc f args with | true => some ⟨.ret, [.bool true], H⟩ | false => step P me (.call f args H)) = some ⟨ex, [v], H'⟩ := hr
    split at hr
    · rename_i hi
      cases hr
      unfold isOrc at hi
      split at hi
      · rename_i g hg
        rw [Bool.and_eq_true, lenN_eq] at hi
        have hfg := Nat.eq_of_beq_eq_true hi.1
        have hnil : args = [] := List.length_eq_zero_iff.1 (Nat.eq_of_beq_eq_true hi.2)
        subst hfg hnil
        obtain ⟨h1, h2⟩ := ho f hg
        have ha : args' = #[] := Array.ext' hv.nil_inv
        subst ha
        refine ⟨h1, CallsIn.mono (h2 w) ?_⟩
        rintro e w' ⟨rfl, hb⟩
        refine ⟨_, σ, h, rfl, VRs.bool true .nil, ⟨k.sim.below hb, Nat.le_refl _, fun _ _ => rfl, fun _ _ h => h, hb.os, hb.tape, hb.output, hb.size, fun c hc _ => hb.block c hc, fun _ h _ => h⟩, k.sub, fun id b hb => by rwa [updO_refl] at hb, MoO.refl H⟩
      · cases hi
    · exact s.call f args H ex v H' hr B σ h w args' k hfr hv
  · exact s.loop
theorem runO_ok (hP : Good P) (ho : OrcOk P) : ∀ n, SelfOk P (runO P n)
  | 0 => ⟨fun _ _ h => (by cases h), fun _ _ _ _ _ _ h => (by cases h), fun _ _ _ _ _ _ h => (by cases h), 0, fun _ _ _ _ _ h => (by cases h)⟩
  | n + 1 => stepO_ok hP ho (runO_ok hP ho n)
end
end Go.Ab
