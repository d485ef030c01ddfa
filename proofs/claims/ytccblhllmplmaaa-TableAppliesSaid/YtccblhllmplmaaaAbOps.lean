import Derived.Test.YtccblhllmplmaaaAbVal
namespace Go.Ab
open Go

section
variable {P : Program} {σ : Loc}

theorem shift_ok (l : Bool) (k k' : IntKind) (a b : Int) (op : BinOp) (hop : isShift op = some l) (t : TypeId) (ox oy : Operand) {v : Value} (h : shiftA l k a b = some v) (w : World) :
    (do eqGuard op t ox oy (.int k a) (.int k' b); binOp op t (.int k a) (.int k' b)).run P w = .ok v w ∧ VR σ v v := by
  unfold shiftA at h
  split at h
  · cases h
  · rename_i hb
    have e2 : ∀ n : Nat, (2 : Int) ^ n = ((2 ^ n : Nat) : Int) := fun n => by simp
    cases op <;> cases hop
    · simp at h; subst h
      refine ⟨?_, .int⟩
      show (Op.shift .shl k a k' b).run P w = _
      simp only [Op.shift, if_neg hb, wrapA_eq, e2]
      rfl
    · simp at h; subst h
      refine ⟨?_, .int⟩
      show (Op.shift .shr k a k' b).run P w = _
      simp only [Op.shift, if_neg hb, e2]
      rfl

theorem guard_ok (op : BinOp) (t : TypeId) (ox oy : Operand) (x y x' y' : Value) (hg : eqGuardB P t (isConstB ox || isConstB oy) x y = true) (hx : VR σ x x') (hy : VR σ y y') (w : World) :
    (eqGuard op t ox oy x' y').run P w = .ok () w := by
  have key : ∀ (p : Prop) [Decidable p] (m : Sem Unit), m.run P w = .ok () w → (if p then (pure () : Sem Unit) else m).run P w = .ok () w := fun p _ m hm => by split <;> first | rfl | exact hm
  unfold eqGuard
  simp only [Sem.run_ite]
  cases hx
  case nilIface =>
    cases hy
    case nilIface =>
      simp only [eqGuardB] at hg
      cases ox <;> cases oy <;> simp [isConstB] at hg <;> cases op <;> simp
    all_goals cases op <;> simp
  case agg xs xs' _ _ =>
    cases hy
    case agg ys ys' _ _ =>
      simp only [eqGuardB, Bool.not_eq_true'] at hg
      cases op <;> simp [run_program, hg]
    all_goals cases op <;> simp
  all_goals cases op <;> simp

def noCmp (x' : Value) : Bool := match x' with | .int _ _ => false | .float _ _ => false | .complex _ _ _ => false | .string _ => false | _ => true
theorem eql_ne (t : TypeId) (x' y' : Value) (hn : noCmp x' = true) :
    binOp .eql t x' y' = (do pure (.bool (← Op.equal t x' y'))) ∧ binOp .neq t x' y' = (do pure (.bool (!(← Op.equal t x' y')))) := by
  cases x' <;> first | (simp [noCmp] at hn; done) | (cases y' <;> exact ⟨rfl, rfl⟩)

theorem oth_ok (op : BinOp) (t : TypeId) (ox oy : Operand) (x y x' y' : Value) {v : Value} (h : othF P op t (isConstB ox || isConstB oy) x y = some v) (hx : VR σ x x') (hy : VR σ y y')
    (hn : noCmp x' = true) (w : World) :
    ∃ v', (do eqGuard op t ox oy x' y'; binOp op t x' y').run P w = .ok v' w ∧ VR σ v v' := by
  obtain ⟨h1, h2⟩ := eql_ne t x' y' hn
  cases op <;> simp only [othF] at h <;> try cases h
  case eql =>
    split at h
    · rename_i hg
      cases hq : eqA P 100 t x y with
      | none => simp [hq] at h
      | some b =>
        simp [hq] at h; subst h
        refine ⟨.bool b, ?_, .bool⟩
        have hr := eqA_ok 100 t x y b x' y' hq hx hy 10000 w (by omega)
        rw [Sem.run_bind, guard_ok .eql t ox oy x y x' y' hg hx hy w, Result.andThen_ok, h1]
        simp only [Op.equal, Op.maxDepth, Sem.run_bind, hr, Result.andThen_ok, Sem.run_pure]
    · cases h
  case neq =>
    split at h
    · rename_i hg
      cases hq : eqA P 100 t x y with
      | none => simp [hq] at h
      | some b =>
        simp [hq] at h; subst h
        refine ⟨.bool (!b), ?_, .bool⟩
        have hr := eqA_ok 100 t x y b x' y' hq hx hy 10000 w (by omega)
        rw [Sem.run_bind, guard_ok .neq t ox oy x y x' y' hg hx hy w, Result.andThen_ok, h2]
        simp only [Op.equal, Op.maxDepth, Sem.run_bind, hr, Result.andThen_ok, Sem.run_pure]
    · cases h

theorem binC_ok (op : BinOp) (t : TypeId) (ox oy : Operand) (x y x' y' : Value) {v : Value} (h : (binC P op t (isConstB ox || isConstB oy)).f x y = some v) (hx : VR σ x x') (hy : VR σ y y') (w : World) :
    ∃ v', (do eqGuard op t ox oy x' y'; binOp op t x' y').run P w = .ok v' w ∧ VR σ v v' := by
  unfold binC at h
  cases hs : isShift op with
  | some l =>
    simp only [hs] at h
    cases x <;> simp only at h <;> try cases h
    rename_i k a
    cases y <;> simp only at h <;> try cases h
    rename_i k' b
    rw [hx.int_inv, hy.int_inv]
    obtain ⟨h1, h2⟩ := shift_ok (P := P) (σ := σ) l k k' a b op hs t ox oy h w
    exact ⟨v, h1, h2⟩
  | none =>
    simp only [hs] at h
    cases x
    case int k a =>
      simp only at h
      cases y <;> simp only at h <;> try cases h
      rename_i k' b
      split at h
      · rename_i hk
        rw [hx.int_inv, hy.int_inv, ← kindB_eq hk]
        obtain ⟨h1, h2⟩ := intF_ok (P := P) (σ := σ) op k a b t ox oy hs h w
        exact ⟨v, h1, h2⟩
      · cases h
    case string a =>
      simp only at h
      cases y <;> simp only at h <;> try cases h
      rename_i b
      rw [hx.string_inv, hy.string_inv]
      obtain ⟨h1, h2⟩ := strF_ok (P := P) (σ := σ) op a b t ox oy hs h w
      exact ⟨v, h1, h2⟩
    case float => cases h
    case complex => cases h
    all_goals
      refine oth_ok op t ox oy _ y x' y' h hx hy ?_ w
      cases hx <;> rfl

theorem unA_ok (op : UnOp) (x x' : Value) {v : Value} (h : unA op x = some v) (hx : VR σ x x') (w : World) : ∃ v', (Op.unary op x').run P w = .ok v' w ∧ VR σ v v' := by
  unfold unA at h
  cases x <;> simp only at h <;> try cases h
  case int k n =>
    rw [hx.int_inv]
    cases op <;> simp only at h <;> cases h
    · exact ⟨_, by simp [Op.unary, Op.intArith, wrapA_eq], .int⟩
    · refine ⟨_, ?_, .int⟩
      simp only [Op.unary, Op.intBits, wrapA_eq, bitsA_eq]
      rfl
  case bool b =>
    rw [hx.bool_inv]
    cases op <;> simp only at h <;> cases h
    exact ⟨_, rfl, .bool⟩

/-! what an operation does -/

/-- the machine does what the abstract operation does -/
def Does (P : Program) (B : Nat) (s : Sem Value) (w : World) (σ : Loc) (h : Nat → Option Blk) (H : Heap) (v : Value) (H' : Heap) : Prop :=
  ∃ v' w' τ, s.run P w = .ok v' w' ∧ VR τ v v' ∧ Goes B σ h H.next w τ (upd h H H') H'.next w'

theorem Does.pure {B : Nat} {s : Sem Value} {w : World} {h : Nat → Option Blk} {H : Heap} {v : Value} (hs : SimF σ B h w) (hr : ∃ v', s.run P w = .ok v' w ∧ VR σ v v') : Does P B s w σ h H v H := by
  obtain ⟨v', h1, h2⟩ := hr
  exact ⟨v', w, σ, h1, h2, by rw [upd_refl]; exact Goes.refl hs⟩

theorem upd_new {h : Nat → Option Blk} {H : Heap} {cs : List Value} {w : World} {B : Nat} (hs : SimF σ B h w) (hid : σ H.next = none) (i : Nat) (b : Blk)
    (hu : upd h H ⟨H.t.set H.next (some ⟨cs, true⟩), Nat.succ H.next, H.floor, H.lps⟩ i = some b) : (i = H.next ∧ b = ⟨cs, true⟩) ∨ (i ≠ H.next ∧ h i = some b) := by
  have hn : h H.next = none := by
    cases hh : h H.next with
    | none => rfl
    | some b => obtain ⟨c, o, s, _, _, _, h1, _⟩ := hs.blk _ _ hh; rw [hid] at h1; cases h1
  unfold upd at hu
  by_cases hi : i = H.next
  · subst hi
    split at hu
    · rw [hn] at hu; cases hu
    · rcases Tr.get_set _ _ _ _ _ hu with ⟨_, h2⟩ | ⟨h1, _⟩
      · cases h2; exact .inl ⟨rfl, rfl⟩
      · exact absurd rfl h1
  · refine .inr ⟨hi, ?_⟩
    have : (Heap.get ⟨H.t.set H.next (some ⟨cs, true⟩), Nat.succ H.next, H.floor, H.lps⟩ i) = H.get i := Tr.get_set_other _ _ _ _ hi
    rw [this, if_pos rfl] at hu
    exact hu

/-- a new row of cells -/
theorem new_does {B : Nat} {h : Nat → Option Blk} {H : Heap} {w : World} (hs : SimF σ B h w) (hB : B ≤ w.heap.size) (hid : σ H.next = none) (cs cs' rest : List Value) (t : TypeId) (fr : Nat × Nat) (hc : VRs σ cs cs')
    (hfr : fr.1 ≤ fr.2 ∧ ∀ i, i < cs'.length + rest.length → (fr.1 ≤ i && i < fr.2) = false) (k : Nat) :
    ∃ τ, τ H.next = some (w.heap.size, 0, cs'.length + rest.length) ∧ Goes B σ h H.next w τ (upd h H ⟨H.t.set H.next (some ⟨cs, true⟩), Nat.succ H.next, H.floor, H.lps⟩) (H.next + 1)
      { w with heap := w.heap.push (.cells (cs' ++ rest).toArray t fr), drawn := k } :=
  ⟨_, if_pos rfl, new_goes hs hB H.next hid cs cs' rest t fr hc hfr k _ fun i b hu => upd_new hs hid i b hu⟩

theorem newRef_ok {B : Nat} {h : Nat → Option Blk} {H H' : Heap} {w : World} {v : Value} (hs : SimF σ B h w) (hB : B ≤ w.heap.size) (hid : ∀ i, H.next ≤ i → i < H'.next → σ i = none) (cs : List Value) (u : Value) (t : TypeId) (hc : VRs σ cs u.cells.toList)
    (hn : newRef cs H = some (v, H')) : Does P B (do pure (.pointer (some (← newVar t u)))) w σ h H v H' := by
  simp only [newRef, Heap.new] at hn
  cases hn
  obtain ⟨τ, h1, h2⟩ := new_does hs hB (hid H.next (Nat.le_refl _) (Nat.lt_succ_self _)) cs u.cells.toList [] t (0, 0) hc (by simp) w.drawn
  refine ⟨.pointer (some ⟨w.heap.size, 0, none⟩), _, τ, ?_, .ptr _ _ _ 0 _ h1 .nil, h2⟩
  simp [newVar, newRow]

theorem slice_new_full {τ : Loc} {id len size c s : Nat} (h : τ id = some (c, 0, s)) (hs : 0 < size) (hl : len * size ≤ s) : VR τ (.slice (some ⟨id, 0, none⟩) len (2 * size + 1)) (.slice (some ⟨c, 0, none⟩) len len) :=
  .slFull id 0 len size c 0 s _ h hs (.inr ⟨by simp, by omega⟩) .nil
theorem slice_new_open {τ : Loc} {id len size cap c s : Nat} (h : τ id = some (c, 0, s)) (hs : 0 < size) (hl : len ≤ cap) (hc : cap * size ≤ s) : VR τ (.slice (some ⟨id, 0, none⟩) len (2 * size)) (.slice (some ⟨c, 0, none⟩) len cap) :=
  .slOpen id 0 len size cap c 0 s _ h hs hl (.inl ⟨by simp, by omega⟩) .nil
end
end Go.Ab
