import Derived.Test.YtccblhllmplmaaaAbSl3
/-! equality of values that hold integers, truth values and strings: cell by cell -/
namespace Go.Ab
open Go
set_option linter.unusedVariables false
inductive CK | b | i (k : IntKind) | s
def fit1 : CK → Value → Prop
  | .b, .bool _ => True
  | .i k, .int k' _ => k = k'
  | .s, .string _ => True
  | _, _ => False
def Fit : List CK → List Value → Prop
  | [], [] => True
  | k :: ks, v :: vs => fit1 k v ∧ Fit ks vs
  | _, _ => False
def cellEq : Value → Value → Bool
  | .bool a, .bool b => a == b
  | .int _ a, .int _ b => decide (a = b)
  | .string a, .string b => a.data.toList == b.data.toList
  | _, _ => false
def eqCells : List Value → List Value → Bool
  | [], [] => true
  | x :: xs, y :: ys => cellEq x y && eqCells xs ys
  | _, _ => false
theorem Fit.len : ∀ {ks : List CK} {vs : List Value}, Fit ks vs → vs.length = ks.length
  | [], [], _ => rfl
  | _ :: _, _ :: _, h => by simp [Fit.len h.2]
theorem Fit.app : ∀ {a b : List CK} {vs : List Value}, Fit (a ++ b) vs → Fit a (vs.take a.length) ∧ Fit b (vs.drop a.length)
  | [], b, vs, h => ⟨trivial, h⟩
  | k :: a, b, v :: vs, h => ⟨⟨h.1, (Fit.app (a := a) h.2).1⟩, (Fit.app (a := a) h.2).2⟩
theorem eqCells_app : ∀ (n : Nat) (xs ys : List Value), n ≤ xs.length → xs.length = ys.length → eqCells xs ys = (eqCells (xs.take n) (ys.take n) && eqCells (xs.drop n) (ys.drop n))
  | 0, xs, ys, _, _ => by simp [eqCells]
  | n + 1, x :: xs, y :: ys, h, e => by
    show (cellEq x y && eqCells xs ys) = ((cellEq x y && eqCells (xs.take n) (ys.take n)) && eqCells (xs.drop n) (ys.drop n))
    rw [eqCells_app n xs ys (by simpa using h) (by simpa using e), Bool.and_assoc]
  | n + 1, [], _, h, _ => by simp at h
  | n + 1, _ :: _, [], _, e => by simp at e
section
variable (P : Program)
def flatFs (F : TypeId → Option (List CK)) : List Field → Nat → Option (List CK)
  | [], _ => some []
  | f :: fs, off =>
    if f.name == "_" then none else
    match Nat.beq f.offset off, sizeB P f.type, F f.type with
    | true, some m, some ks => (match Nat.beq ks.length m, flatFs F fs (off + m) with
      | true, some r => some (ks ++ r)
      | _, _ => none)
    | _, _, _ => none
def repK : Nat → List CK → List CK
  | 0, _ => []
  | n + 1, l => l ++ repK n l
def flatK : Nat → TypeId → Option (List CK)
  | 0, _ => none
  | d + 1, t =>
    match P.underlying t, isAggB P t with
    | some .bool, some false => some [.b]
    | some (.int k), some false => some [.i k]
    | some .string, some false => some [.s]
    | some (.struct fs), some true => if P.stoodInHeld t then none else flatFs P (flatK d) fs.toList 0
    | some (.array n e), some true => (match sizeB P e, flatK d e with
      | some m, some ks => (match Nat.beq ks.length m with | true => some (repK n ks) | false => none)
      | _, _ => none)
    | _, _ => none
variable {P}
/-- the value of a type over these cells -/
def valOf (P : Program) (t : TypeId) (cs : List Value) : Option Value :=
  match isAggB P t with
  | some true => some (.agg cs.toArray)
  | some false => cs[0]?
  | none => none
theorem partA_flat {t : TypeId} {cs : List Value} {off n : Nat} {ks : List CK} (hs : sizeB P t = some n) (hf : Fit ks ((cs.drop off).take n)) (hk : ks.length = n) (h1 : isAggB P t = some false → n = 1) : partA P t cs off = valOf P t ((cs.drop off).take n) := by
  unfold partA valOf
  rw [hs]
  match h : isAggB P t with
  | some true => simp only [takeN_eq, dropN_eq]
  | some false =>
    have := h1 h
    subst this
    simp only [atN_eq]
    rw [List.getElem?_take_of_lt (by omega), List.getElem?_drop, Nat.add_zero]
  | none => rfl
theorem flat_one {d : Nat} {t : TypeId} {ks : List CK} (h : flatK P d t = some ks) (ha : isAggB P t = some false) : ks.length = 1 := by
  cases d with
  | zero => cases h
  | succ d =>
    unfold flatK at h
    rw [ha] at h
    split at h <;> first | (cases h; rfl) | (rename_i hh; cases hh) | cases h
theorem valOf_some {d : Nat} {t : TypeId} {ks : List CK} {xs : List Value} (h : flatK P d t = some ks) (hx : Fit ks xs) : ∃ v, valOf P t xs = some v := by
  unfold valOf
  match ha : isAggB P t with
  | some true => exact ⟨_, rfl⟩
  | some false =>
    have h1 := flat_one h ha
    have := hx.len
    match xs with
    | x :: _ => exact ⟨x, rfl⟩
    | [] => simp at this; omega
  | none =>
    cases d with
    | zero => cases h
    | succ d =>
      unfold flatK at h
      rw [ha] at h
      split at h <;> first | (rename_i hh; cases hh) | cases h
/-- an equality does what it should at a type -/
def EqGood (P : Program) (eq : TypeId → Value → Value → Option Bool) (F : TypeId → Option (List CK)) : Prop :=
  ∀ t ks xs ys x y, F t = some ks → Fit ks xs → Fit ks ys → valOf P t xs = some x → valOf P t ys = some y → eq t x y = some (eqCells xs ys)
theorem fields_flat {eq : TypeId → Value → Value → Option Bool} {d : Nat} (hg : EqGood P eq (flatK P d)) (xs ys : List Value) :
    ∀ (fs : List Field) (off : Nat) (ks : List CK), flatFs P (flatK P d) fs off = some ks → Fit ks (xs.drop off) → Fit ks (ys.drop off) → eqFields P eq xs ys fs = some (eqCells (xs.drop off) (ys.drop off))
  | [], off, ks, h, hx, hy => by
    cases h
    have e1 : xs.drop off = [] := List.length_eq_zero_iff.1 hx.len
    have e2 : ys.drop off = [] := List.length_eq_zero_iff.1 hy.len
    rw [e1, e2]; rfl
  | f :: fs, off, ks, h, hx, hy => by
    unfold flatFs at h
    unfold eqFields
    split at h
    · cases h
    · rename_i hname
      rw [if_neg hname]
      split at h
      · rename_i m ks1 ho hs hf
        split at h
        · rename_i r hl hr
          cases h
          have ho := Nat.eq_of_beq_eq_true ho
          have hl := Nat.eq_of_beq_eq_true hl
          subst ho
          obtain ⟨hx1, hx2⟩ := hx.app
          obtain ⟨hy1, hy2⟩ := hy.app
          rw [hl] at hx1 hx2 hy1 hy2
          have h1 : isAggB P f.type = some false → m = 1 := fun ha => by rw [← hl]; exact flat_one hf ha
          rw [partA_flat hs hx1 hl h1, partA_flat hs hy1 hl h1]
          obtain ⟨v, hv⟩ := valOf_some hf hx1
          obtain ⟨w, hw⟩ := valOf_some hf hy1
          rw [hv, hw]
          simp only
          rw [hg _ _ _ _ _ _ hf hx1 hy1 hv hw]
          rw [List.drop_drop] at hx2 hy2
          have ih := fields_flat hg xs ys fs (f.offset + m) r hr hx2 hy2
          have hlx := hx.len
          have hly := hy.len
          rw [List.length_append] at hlx hly
          rw [eqCells_app m (xs.drop f.offset) (ys.drop f.offset) (by omega) (by omega), List.drop_drop, List.drop_drop]
          cases hc : eqCells ((xs.drop f.offset).take m) ((ys.drop f.offset).take m) with
          | true => simp only [ih, Bool.true_and]
          | false => simp only [Bool.false_and]
        · cases h
      · cases h
theorem elems_flat {eq : TypeId → Value → Value → Option Bool} {d : Nat} (hg : EqGood P eq (flatK P d)) {e : TypeId} {m : Nat} {ks : List CK} (hs : sizeB P e = some m) (hf : flatK P d e = some ks) (hl : ks.length = m) (xs ys : List Value) :
    ∀ (n i : Nat), Fit (repK n ks) (xs.drop (i * m)) → Fit (repK n ks) (ys.drop (i * m)) → eqElems P (eq e) e m xs ys n i = some (eqCells (xs.drop (i * m)) (ys.drop (i * m)))
  | 0, i, hx, hy => by
    have e1 : xs.drop (i * m) = [] := List.length_eq_zero_iff.1 hx.len
    have e2 : ys.drop (i * m) = [] := List.length_eq_zero_iff.1 hy.len
    rw [e1, e2]; rfl
  | n + 1, i, hx, hy => by
    unfold eqElems
    have hx : Fit (ks ++ repK n ks) (xs.drop (i * m)) := hx
    have hy : Fit (ks ++ repK n ks) (ys.drop (i * m)) := hy
    obtain ⟨hx1, hx2⟩ := hx.app
    obtain ⟨hy1, hy2⟩ := hy.app
    rw [hl] at hx1 hx2 hy1 hy2
    have h1 : isAggB P e = some false → m = 1 := fun ha => by rw [← hl]; exact flat_one hf ha
    rw [partA_flat hs hx1 hl h1, partA_flat hs hy1 hl h1]
    obtain ⟨v, hv⟩ := valOf_some hf hx1
    obtain ⟨w, hw⟩ := valOf_some hf hy1
    rw [hv, hw]
    simp only
    rw [hg _ _ _ _ _ _ hf hx1 hy1 hv hw]
    rw [List.drop_drop, ← Nat.succ_mul] at hx2 hy2
    have ih := elems_flat hg hs hf hl xs ys n (i + 1) hx2 hy2
    have hlx := hx.len
    have hly := hy.len
    rw [List.length_append] at hlx hly
    rw [eqCells_app m (xs.drop (i * m)) (ys.drop (i * m)) (by omega) (by omega), List.drop_drop, List.drop_drop, ← Nat.succ_mul]
    cases hc : eqCells ((xs.drop (i * m)).take m) ((ys.drop (i * m)).take m) with
    | true => simp only [Bool.true_and]; exact ih
    | false => simp only [Bool.false_and]
theorem eqA_flat : ∀ (d D : Nat), d ≤ D → EqGood P (eqA P D) (flatK P d)
  | 0, _, _ => fun t ks xs ys x y h => by cases h
  | d + 1, 0, h => by omega
  | d + 1, D + 1, hd => fun t ks xs ys x y h hx hy hvx hvy => by
    have ih := eqA_flat d D (by omega)
    unfold flatK at h
    unfold eqA
    split at h
    · rename_i hu ha
      cases h
      rw [hu]
      unfold valOf at hvx hvy
      rw [ha] at hvx hvy
      match xs, ys, hx, hy, hvx, hvy with
      | [.bool a], [.bool b], _, _, hvx, hvy => cases hvx; cases hvy; simp [eqCells, cellEq]
    · rename_i k hu ha
      cases h
      rw [hu]
      unfold valOf at hvx hvy
      rw [ha] at hvx hvy
      match xs, ys, hx, hy, hvx, hvy with
      | [.int k1 a], [.int k2 b], hx, hy, hvx, hvy =>
        cases hvx; cases hvy
        have e1 : k = k1 := hx.1
        have e2 : k = k2 := hy.1
        subst e1; subst e2
        have : kindB k k = true := by cases k <;> rfl
        simp only [this, eqCells, cellEq, eqB_eq, Bool.and_true]
    · rename_i hu ha
      cases h
      rw [hu]
      unfold valOf at hvx hvy
      rw [ha] at hvx hvy
      match xs, ys, hx, hy, hvx, hvy with
      | [.string a], [.string b], _, _, hvx, hvy => cases hvx; cases hvy; simp [eqCells, cellEq]
    · rename_i fs hu ha
      rw [hu]
      unfold valOf at hvx hvy
      rw [ha] at hvx hvy
      cases hvx; cases hvy
      split at h
      · cases h
      · rename_i hst
        simp only
        rw [if_neg hst]
        have := fields_flat ih xs ys fs.toList 0 ks h hx hy
        simpa using this
    · rename_i n e hu ha
      rw [hu]
      unfold valOf at hvx hvy
      rw [ha] at hvx hvy
      cases hvx; cases hvy
      split at h
      · rename_i m ks1 hs hf
        split at h
        · rename_i hl
          cases h
          have hl := Nat.eq_of_beq_eq_true hl
          simp only [hs]
          have := elems_flat ih hs hf hl xs ys n 0 (by simpa using hx) (by simpa using hy)
          simpa using this
        · cases h
      · cases h
    · cases h
/-- two values of a type, by their cells -/
theorem bin_eql_f {t : TypeId} {c : Bool} {ks : List CK} {xs ys : List Value} (hk : flatK P 100 t = some ks) (ha : isAggB P t = some true) (hg : P.eqGuardType P.depth t = false) (hx : Fit ks xs) (hy : Fit ks ys) : (binC P .eql t c).f (.agg xs.toArray) (.agg ys.toArray) = some (.bool (eqCells xs ys)) := by
  show (if eqGuardB P t c (.agg xs.toArray) (.agg ys.toArray) then (eqA P 100 t (.agg xs.toArray) (.agg ys.toArray)).map Value.bool else none) = _
  have h1 : eqGuardB P t c (.agg xs.toArray) (.agg ys.toArray) = true := by show (!P.eqGuardType P.depth t) = true; rw [hg]; rfl
  rw [if_pos h1, eqA_flat 100 100 (Nat.le_refl _) t ks xs ys _ _ hk hx hy (by unfold valOf; rw [ha]) (by unfold valOf; rw [ha])]
  rfl
theorem bin_neq_f {t : TypeId} {c : Bool} {ks : List CK} {xs ys : List Value} (hk : flatK P 100 t = some ks) (ha : isAggB P t = some true) (hg : P.eqGuardType P.depth t = false) (hx : Fit ks xs) (hy : Fit ks ys) : (binC P .neq t c).f (.agg xs.toArray) (.agg ys.toArray) = some (.bool !(eqCells xs ys)) := by
  show (if eqGuardB P t c (.agg xs.toArray) (.agg ys.toArray) then (eqA P 100 t (.agg xs.toArray) (.agg ys.toArray)).map (fun r => Value.bool !r) else none) = _
  have h1 : eqGuardB P t c (.agg xs.toArray) (.agg ys.toArray) = true := by show (!P.eqGuardType P.depth t) = true; rw [hg]; rfl
  rw [if_pos h1, eqA_flat 100 100 (Nat.le_refl _) t ks xs ys _ _ hk hx hy (by unfold valOf; rw [ha]) (by unfold valOf; rw [ha])]
  rfl
theorem cellEq_self {k : CK} {v : Value} (h : fit1 k v) : cellEq v v = true := by
  cases k <;> cases v <;> first | (simp [cellEq]; done) | exact absurd h (by simp [fit1])
theorem eqCells_self : ∀ {ks : List CK} {xs : List Value}, Fit ks xs → eqCells xs xs = true
  | [], [], _ => rfl
  | k :: ks, x :: xs, h => by
    show (cellEq x x && eqCells xs xs) = true
    rw [cellEq_self h.1, eqCells_self h.2]; rfl
end
end Go.Ab
