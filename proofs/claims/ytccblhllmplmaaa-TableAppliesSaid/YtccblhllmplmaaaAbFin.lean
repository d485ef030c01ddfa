import Derived.Test.YtccblhllmplmaaaAbRun2
import Derived.Below
import Derived.KernelRfl
import Derived.WalkKit
import Derived.ProofKit
import Derived.OpenShut
namespace Go.Ab
open Go

/-- an empty heap, with room for the globals' numbers -/
noncomputable def start (n : Nat) : Heap := ⟨Nat.rec (motive := fun _ => Tr Blk) .nil (fun k t => t.set k none) n, n, 0, []⟩
noncomputable def goodB (P : Program) : Bool := allN (fun fn => not (fn.name == "runtime.NumGoroutine")) P.funcs.toList && P.follows .mixedOrders
noncomputable def isTrueB (o : Option Out) : Bool := match o with
  | some ⟨_, l, _⟩ => match l with
    | [v] => match v with
      | .bool b => b
      | _ => false
    | _ => false
  | none => false

theorem good_of {P : Program} (h : goodB P = true) : Good P := by
  unfold goodB at h
  rw [Bool.and_eq_true, allN_eq, List.all_eq_true] at h
  refine ⟨fun f fn hf he => ?_, h.2⟩
  have hm : fn ∈ P.funcs.toList := by
    have : P.funcs.toList[f]? = some fn := by simpa using hf
    exact List.mem_of_getElem? this
  have := h.1 fn hm
  rw [he] at this
  simp at this

theorem start_get : ∀ (n i : Nat), (start n).get i = none
  | 0, i => rfl
  | n + 1, i => by
    cases h : (start (n + 1)).get i with
    | none => rfl
    | some b =>
      have h : ((start n).t.set n none).get i = some b := h
      rcases Tr.get_set _ _ _ _ _ h with ⟨_, h1⟩ | ⟨_, h1⟩
      · cases h1
      · have h2 : (start n).get i = some b := h1
        rw [start_get n i] at h2; cases h2

noncomputable def loc0 (n : Nat) : Loc := fun g => if g < n then some (g, 0, 0) else none

theorem start_getO (n i : Nat) : (start n).getO i = none := getO_none.2 ⟨start_get n i, rfl⟩
theorem known0 (P : Program) (w : World) : Known P w.heap.size (loc0 P.globals.size) (fun _ => none) (start P.globals.size) w := by
  refine ⟨⟨fun _ _ h => (by cases h), fun _ _ h => (by cases h), fun _ _ _ _ _ h => (by cases h)⟩, fun id b hb => ?_, Nat.le_refl _, fun g hg => ⟨0, by simp [loc0, hg]⟩, ⟨fun i hi => absurd (start_getO _ i) hi, fun i hi => absurd rfl hi⟩, Nat.zero_le _⟩
  rw [start_getO] at hb; cases hb

/-- a call that has no argument -/
theorem closed {P : Program} (hP : goodB P = true) {n : Nat} {f : FuncId} {ex : Ex} {v : Value} {H' : Heap} (hr : run P n (.call f [] (start P.globals.size)) = some ⟨ex, [v], H'⟩) (w : World) :
    Calls P f #[] w fun e w' => ∃ v' τ h', e = .returned v' ∧ VR τ v v' ∧ SimO τ w.heap.size h' w' ∧ SubO H' h' ∧ RowKit.Below w.heap.size w w' := by
  have hc := ((run_ok (good_of hP) n).call f [] _ ex v H' hr w.heap.size _ _ w #[] (known0 P w) (fun i h1 _ => by
    have : ¬ i < P.globals.size := Nat.not_lt.2 h1
    simp [loc0, this]) .nil).2
  refine (CallsIn.calls hc (wd_room none)).mono ?_
  rintro e w' ⟨v', τ, h', rfl, h1, h2⟩
  refine ⟨v', τ, h', rfl, h1, h2.goes.sim, h2.sub, h2.goes.os, h2.goes.tape, h2.goes.output, h2.goes.size, fun k hk => h2.goes.keep k hk ?_⟩
  rintro ⟨id, b, _, _, hb, _⟩
  cases hb

theorem closed_true {P : Program} (hP : goodB P = true) {n : Nat} {f : FuncId} (hr : isTrueB (run P n (.call f [] (start P.globals.size))) = true) (w : World) :
    Calls P f #[] w fun e w' => e = .returned (.bool true) ∧ RowKit.Below w.heap.size w w' := by
  unfold isTrueB at hr
  split at hr
  · rename_i ex l H' hrun
    split at hr
    · rename_i v
      split at hr
      · subst hr
        refine (closed hP hrun w).mono ?_
        rintro e w' ⟨v', τ, h', rfl, h1, _, _, h4⟩
        cases h1
        exact ⟨rfl, h4⟩
      · cases hr
    · cases hr
  · cases hr

/-! the row's step, where the call leaves what was there -/
section
open Go.ChangeShapes Go.WideShapes Go.ChangeAt Go.RowKit
theorem post_below {H : Type} {enc : TypeId × Value → H} {P : Program} {f : Func} {s : ChangeSpec} {apart fresh handsOn : Bool} {W W' : World} {args : Array Value} {v : Value} {ds gs : List (DataW H)} {before pa pv : List MemPlace}
    (hW : DataW.Whole enc P f.params.toList s.vars apart W args.toList ds gs before) (hb : Below W.heap.size W W')
    (hres : ∀ (b : Nat) (sp : Nat → Bool) (hd : Bool), DataW.TrodAll enc P W' b sp hd f.resultTypes.toList (v.resultList f.resultTypes.size) (s.fn H (ds ++ gs)).results [])
    (hargs : DataW.TrodAll enc P W' 0 (fun b => decide (b < W.heap.size)) true f.params.toList args.toList (s.fn H (ds ++ gs)).args pa)
    (hvars : DataW.TrodVars enc P W' (fun b => decide (b < W.heap.size)) s.vars (s.fn H (ds ++ gs)).vars pv) : s.post enc P f apart fresh handsOn false W args v W' :=
  ⟨ds, gs, before, [], pa, pv, hW, hres _ _ _, hargs, hvars, hb.frame _, fun h => (by cases h)⟩
end
end Go.Ab
