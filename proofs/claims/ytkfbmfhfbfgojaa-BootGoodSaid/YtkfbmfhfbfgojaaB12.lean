import Derived.Test.YtkfbmfhfbfgojaaB11
set_option linter.unusedVariables false
set_option maxRecDepth 100000
namespace B
open Go Go.Ab
variable {H : Heap} {Γ : List (Nat × Blk)} {K : Value → Heap → Prop}
section
variable {t : Tb} {c : Ch}
theorem eqCells_join : ∀ {a a' b b' : List Value}, a.length = a'.length → eqCells (a ++ b) (a' ++ b') = (eqCells a a' && eqCells b b')
  | [], [], _, _, _ => by simp [eqCells]
  | x :: a, y :: a', b, b', h => by
    show (cellEq x y && eqCells (a ++ b) (a' ++ b')) = ((cellEq x y && eqCells a a') && eqCells b b')
    rw [eqCells_join (by simpa using h), Bool.and_assoc]
  | [], _ :: _, _, _, h => by simp at h
  | _ :: _, [], _, _, h => by simp at h
def SEq (s s' : Sl) : Prop := eqCells (slC s) (slC s') = true
instance (s s' : Sl) : Decidable (SEq s s') := by unfold SEq; infer_instance
theorem SEq.rfl' (s : Sl) : SEq s s := eqCells_self (fitS s)
theorem eq_ch (c c' : Ch) : eqCells (chC c) (chC c') = decide (c.kind = c'.kind ∧ c.slot = c'.slot ∧ c.n = c'.n ∧ SEq c.to c'.to ∧ c.ver = c'.ver) := by
  have e : eqCells (chC c) (chC c') = (cellEq (int c.kind) (int c'.kind) && (cellEq (int c.slot) (int c'.slot) && (cellEq (int c.n) (int c'.n) && eqCells (slC c.to ++ [.int .u64 c.ver]) (slC c'.to ++ [.int .u64 c'.ver])))) := rfl
  rw [e, eqCells_join (a := slC c.to) (a' := slC c'.to) rfl, Bool.eq_iff_iff, decide_eq_true_iff]
  unfold SEq
  simp [cellEq, eqCells]
def SZ (s : Sl) : Prop := SEq (slz 0) s
instance (s : Sl) : Decidable (SZ s) := by unfold SZ; infer_instance
/-- a change that can be -/
def CRight (c : Ch) : Prop :=
  (c.kind = 1 ∧ (Ix c.slot ∧ SRight c.to) ∧ c.n = 0 ∧ c.ver = 0) ∨
  (c.kind = 2 ∧ Ix c.n ∧ c.slot = 0 ∧ SZ c.to ∧ c.ver = 0) ∨
  (c.kind = 3 ∧ (c.n = -1 ∨ Ix c.n) ∧ c.slot = 0 ∧ SZ c.to ∧ c.ver = 0) ∨
  (c.kind = 4 ∧ c.ver ≤ 281474976710656 ∧ c.slot = 0 ∧ c.n = 0 ∧ SZ c.to)
instance (c : Ch) : Decidable (CRight c) := by unfold CRight; infer_instance
end
end B
