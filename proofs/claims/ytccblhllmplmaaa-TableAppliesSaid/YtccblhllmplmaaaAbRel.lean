import Derived.Test.YtccblhllmplmaaaAbLem
namespace Go.Ab
open Go

/-- where an abstract block lies: block, first cell, how many cells the block has -/
abbrev Loc := Nat → Option (Nat × Nat × Nat)

/-- which value of the machine an abstract value stands for -/
inductive VRs (σ : Loc) : List Value → List Value → Prop
  | nil : VRs σ [] []
  | bool {r r' : List Value} (b : Bool) : VRs σ r r' → VRs σ (.bool b :: r) (.bool b :: r')
  | int {r r' : List Value} (k : IntKind) (n : Int) : VRs σ r r' → VRs σ (.int k n :: r) (.int k n :: r')
  | string {r r' : List Value} (s : ByteArray) : VRs σ r r' → VRs σ (.string s :: r) (.string s :: r')
  | ptrNil {r r' : List Value} : VRs σ r r' → VRs σ (.pointer none :: r) (.pointer none :: r')
  | ptr {r r' : List Value} (id off c o s : Nat) : σ id = some (c, o, s) → VRs σ r r' → VRs σ (.pointer (some ⟨id, off, none⟩) :: r) (.pointer (some ⟨c, o + off, none⟩) :: r')
  | slNil {r r' : List Value} : VRs σ r r' → VRs σ (.slice none 0 0 :: r) (.slice none 0 0 :: r')
  | slFull {r r' : List Value} (id off len size c o s : Nat) (a : Addr) : σ id = some (c, o, s) → 0 < size → (len = 0 ∨ (a = ⟨c, o + off, none⟩ ∧ o + off + len * size ≤ s)) → VRs σ r r' →
      VRs σ (.slice (some ⟨id, off, none⟩) len (2 * size + 1) :: r) (.slice (some a) len len :: r')
  | slOpen {r r' : List Value} (id off len size cap c o s : Nat) (a : Addr) : σ id = some (c, o, s) → 0 < size → len ≤ cap →
      ((a = ⟨c, o + off, none⟩ ∧ o + off + cap * size ≤ s) ∨ (len = 0 ∧ cap = 0)) → VRs σ r r' →
      VRs σ (.slice (some ⟨id, off, none⟩) len (2 * size) :: r) (.slice (some a) len cap :: r')
  | mapNil {r r' : List Value} : VRs σ r r' → VRs σ (.map none :: r) (.map none :: r')
  | func {r r' : List Value} (f : FuncId) (x x' y y' : Array Value) : VRs σ x.toList x'.toList → VRs σ y.toList y'.toList → VRs σ r r' → VRs σ (.func (.func f) x y :: r) (.func (.func f) x' y' :: r')
  | yld {r r' : List Value} (id c o s : Nat) : σ id = some (c, o, s) → VRs σ r r' → VRs σ (.func (.yield id) #[] #[] :: r) (.func (.yield c) #[] #[] :: r')
  | nilFunc {r r' : List Value} : VRs σ r r' → VRs σ (.nilFunc :: r) (.nilFunc :: r')
  | nilIface {r r' : List Value} : VRs σ r r' → VRs σ (.nilIface :: r) (.nilIface :: r')
  | iface {r r' : List Value} (t : TypeId) (v v' : Value) : VRs σ [v] [v'] → VRs σ r r' → VRs σ (.iface t v :: r) (.iface t v' :: r')
  | agg {r r' : List Value} (x x' : Array Value) : VRs σ x.toList x'.toList → VRs σ r r' → VRs σ (.agg x :: r) (.agg x' :: r')
  | tuple {r r' : List Value} (x x' : Array Value) : VRs σ x.toList x'.toList → VRs σ r r' → VRs σ (.tuple x :: r) (.tuple x' :: r')

abbrev VR (σ : Loc) (v v' : Value) : Prop := VRs σ [v] [v']

section
variable {σ τ : Loc}
theorem VRs.cons {v v' : Value} {r r' : List Value} (h : VR σ v v') (hr : VRs σ r r') : VRs σ (v :: r) (v' :: r') := by
  cases h
  case bool b _ => exact .bool b hr
  case int k n _ => exact .int k n hr
  case string s _ => exact .string s hr
  case ptrNil _ => exact .ptrNil hr
  case ptr id off c o s h0 _ => exact .ptr id off c o s h0 hr
  case slNil _ => exact .slNil hr
  case slFull id off len size c o s a h0 h1 h2 _ => exact .slFull id off len size c o s a h0 h1 h2 hr
  case slOpen id off len size cap c o s a h0 h1 h2 h3 _ => exact .slOpen id off len size cap c o s a h0 h1 h2 h3 hr
  case mapNil _ => exact .mapNil hr
  case func f x x' y y' h1 h2 _ => exact .func f x x' y y' h1 h2 hr
  case yld id c o s h0 _ => exact .yld id c o s h0 hr
  case nilFunc _ => exact .nilFunc hr
  case nilIface _ => exact .nilIface hr
  case iface t w w' h1 _ => exact .iface t w w' h1 hr
  case agg x x' h1 _ => exact .agg x x' h1 hr
  case tuple x x' h1 _ => exact .tuple x x' h1 hr
theorem VRs.uncons {v : Value} {r l : List Value} (h : VRs σ (v :: r) l) : ∃ v' r', l = v' :: r' ∧ VR σ v v' ∧ VRs σ r r' := by
  cases h
  case bool r' b h => exact ⟨_, _, rfl, .bool b .nil, h⟩
  case int r' k n h => exact ⟨_, _, rfl, .int k n .nil, h⟩
  case string r' s h => exact ⟨_, _, rfl, .string s .nil, h⟩
  case ptrNil r' h => exact ⟨_, _, rfl, .ptrNil .nil, h⟩
  case ptr r' id off c o s h0 h => exact ⟨_, _, rfl, .ptr id off c o s h0 .nil, h⟩
  case slNil r' h => exact ⟨_, _, rfl, .slNil .nil, h⟩
  case slFull r' id off len size c o s a h0 h1 h2 h => exact ⟨_, _, rfl, .slFull id off len size c o s a h0 h1 h2 .nil, h⟩
  case slOpen r' id off len size cap c o s a h0 h1 h2 h3 h => exact ⟨_, _, rfl, .slOpen id off len size cap c o s a h0 h1 h2 h3 .nil, h⟩
  case mapNil r' h => exact ⟨_, _, rfl, .mapNil .nil, h⟩
  case func r' f x x' y y' h1 h2 h => exact ⟨_, _, rfl, .func f x x' y y' h1 h2 .nil, h⟩
  case yld r' id c o s h0 h => exact ⟨_, _, rfl, .yld id c o s h0 .nil, h⟩
  case nilFunc r' h => exact ⟨_, _, rfl, .nilFunc .nil, h⟩
  case nilIface r' h => exact ⟨_, _, rfl, .nilIface .nil, h⟩
  case iface r' t w w' h1 h => exact ⟨_, _, rfl, .iface t w w' h1 .nil, h⟩
  case agg r' x x' h1 h => exact ⟨_, _, rfl, .agg x x' h1 .nil, h⟩
  case tuple r' x x' h1 h => exact ⟨_, _, rfl, .tuple x x' h1 .nil, h⟩
theorem VRs.nil_inv {l : List Value} (h : VRs σ [] l) : l = [] := by cases h; rfl
theorem VRs.length {l l' : List Value} (h : VRs σ l l') : l.length = l'.length := by
  induction l generalizing l' with
  | nil => rw [h.nil_inv]
  | cons v r ih => obtain ⟨v', r', rfl, _, hr⟩ := h.uncons; simp [ih hr]
theorem VRs.mono (hm : ∀ id x, σ id = some x → τ id = some x) {l l' : List Value} (h : VRs σ l l') : VRs τ l l' := by
  induction h with
  | nil => exact .nil
  | bool b _ ih => exact .bool b ih
  | int k n _ ih => exact .int k n ih
  | string s _ ih => exact .string s ih
  | ptrNil _ ih => exact .ptrNil ih
  | ptr id off c o s h0 _ ih => exact .ptr id off c o s (hm _ _ h0) ih
  | slNil _ ih => exact .slNil ih
  | slFull id off len size c o s a h0 h1 h2 _ ih => exact .slFull id off len size c o s a (hm _ _ h0) h1 h2 ih
  | slOpen id off len size cap c o s a h0 h1 h2 h3 _ ih => exact .slOpen id off len size cap c o s a (hm _ _ h0) h1 h2 h3 ih
  | mapNil _ ih => exact .mapNil ih
  | func f x x' y y' _ _ _ i1 i2 ih => exact .func f x x' y y' i1 i2 ih
  | yld id c o s h0 _ ih => exact .yld id c o s (hm _ _ h0) ih
  | nilFunc _ ih => exact .nilFunc ih
  | nilIface _ ih => exact .nilIface ih
  | iface t v v' _ _ i1 ih => exact .iface t v v' i1 ih
  | agg x x' _ _ i1 ih => exact .agg x x' i1 ih
  | tuple x x' _ _ i1 ih => exact .tuple x x' i1 ih
theorem VRs.append {l l' m m' : List Value} (h : VRs σ l l') (k : VRs σ m m') : VRs σ (l ++ m) (l' ++ m') := by
  induction l generalizing l' with
  | nil => rw [h.nil_inv]; exact k
  | cons v r ih => obtain ⟨v', r', rfl, hv, hr⟩ := h.uncons; exact (hv.cons (ih hr))
theorem VRs.take {l l' : List Value} (h : VRs σ l l') (n : Nat) : VRs σ (l.take n) (l'.take n) := by
  induction l generalizing l' n with
  | nil => rw [h.nil_inv]; simp; exact .nil
  | cons v r ih =>
    obtain ⟨v', r', rfl, hv, hr⟩ := h.uncons
    cases n with
    | zero => exact .nil
    | succ n => exact hv.cons (ih hr n)
theorem VRs.drop {l l' : List Value} (h : VRs σ l l') (n : Nat) : VRs σ (l.drop n) (l'.drop n) := by
  induction l generalizing l' n with
  | nil => rw [h.nil_inv]; simp; exact .nil
  | cons v r ih =>
    obtain ⟨v', r', rfl, hv, hr⟩ := h.uncons
    cases n with
    | zero => exact hv.cons hr
    | succ n => exact ih hr n
theorem VRs.get {l l' : List Value} (h : VRs σ l l') (n : Nat) (v : Value) (hv : l[n]? = some v) : ∃ v', l'[n]? = some v' ∧ VR σ v v' := by
  induction l generalizing l' n with
  | nil => simp at hv
  | cons x r ih =>
    obtain ⟨x', r', rfl, hx, hr⟩ := h.uncons
    cases n with
    | zero => simp at hv; subst hv; exact ⟨x', by simp, hx⟩
    | succ n => simpa using ih hr n (by simpa using hv)
theorem VRs.get' {l l' : List Value} (h : VRs σ l l') (n : Nat) (v' : Value) (hv : l'[n]? = some v') : ∃ v, l[n]? = some v ∧ VR σ v v' := by
  have hl := h.length
  cases hn : l[n]? with
  | none =>
    have := List.getElem?_eq_none_iff.1 hn
    have : l'[n]? = none := List.getElem?_eq_none_iff.2 (by omega)
    rw [this] at hv; cases hv
  | some v => obtain ⟨u, hu, hr⟩ := h.get n v hn; rw [hv] at hu; cases hu; exact ⟨v, rfl, hr⟩
theorem VRs.set {l l' : List Value} (h : VRs σ l l') (n : Nat) {v v' : Value} (hv : VR σ v v') : VRs σ (l.set n v) (l'.set n v') := by
  induction l generalizing l' n with
  | nil => rw [h.nil_inv]; simp; exact .nil
  | cons x r ih =>
    obtain ⟨x', r', rfl, hx, hr⟩ := h.uncons
    cases n with
    | zero => exact hv.cons hr
    | succ n => exact hx.cons (ih hr n)
theorem VR.undef : VR σ undef undef := .tuple _ _ .nil .nil
theorem VRs.getD {l l' : List Value} (h : VRs σ l l') (n : Nat) : VR σ (l.getD n undef) (l'.getD n undef) := by
  cases hn : l[n]? with
  | none =>
    have h1 := List.getElem?_eq_none_iff.1 hn
    have h2 : l'[n]? = none := List.getElem?_eq_none_iff.2 (by have := h.length; omega)
    simp only [List.getD_eq_getElem?_getD, hn, h2]; exact VR.undef
  | some v => obtain ⟨u, hu, hr⟩ := h.get n v hn; simp only [List.getD_eq_getElem?_getD, hn, hu]; exact hr
theorem VRs.map_int {α : Type} (k : IntKind) (g : α → Int) (l : List α) : VRs σ (l.map fun x => .int k (g x)) (l.map fun x => .int k (g x)) := by
  induction l with
  | nil => exact .nil
  | cons x r ih => exact .int k (g x) ih
theorem constCell_VR {v : Value} (h : constCell v = true) : VR σ v v := by
  cases v with
  | bool b => exact .bool b .nil
  | int k n => exact .int k n .nil
  | string s => exact .string s .nil
  | pointer a => cases a with
    | none => exact .ptrNil .nil
    | some a => cases h
  | slice a n c => cases a with
    | none =>
      simp only [constCell, Bool.and_eq_true] at h
      obtain rfl := Nat.eq_of_beq_eq_true h.1
      obtain rfl := Nat.eq_of_beq_eq_true h.2
      exact .slNil .nil
    | some a => cases h
  | map r => cases r with
    | none => exact .mapNil .nil
    | some a => cases h
  | func fn x y => cases fn with
    | func f =>
      simp only [constCell, Bool.and_eq_true, lenN_eq] at h
      have h1 := Nat.eq_of_beq_eq_true h.1
      have h2 := Nat.eq_of_beq_eq_true h.2
      have e1 : x.toList = [] := List.length_eq_zero_iff.1 h1
      have e2 : y.toList = [] := List.length_eq_zero_iff.1 h2
      exact .func f x x y y (by rw [e1]; exact .nil) (by rw [e2]; exact .nil) .nil
    | _ => cases h
  | nilFunc => exact .nilFunc .nil
  | nilIface => exact .nilIface .nil
  | _ => cases h
theorem constCells_VRs {l : List Value} (h : allN constCell l = true) : VRs σ l l := by
  rw [allN_eq] at h
  induction l with
  | nil => exact .nil
  | cons v r ih => rw [List.all_cons, Bool.and_eq_true] at h; exact (constCell_VR h.1).cons (ih h.2)
theorem constOk_VR {v : Value} (h : constOk v = true) : VR σ v v := by
  cases v with
  | agg cs => exact .agg cs cs (constCells_VRs h) .nil
  | tuple vs =>
    simp only [constOk, lenN_eq] at h
    have e : vs.toList = [] := List.length_eq_zero_iff.1 (Nat.eq_of_beq_eq_true h)
    exact .tuple vs vs (by rw [e]; exact .nil) .nil
  | bool b => exact .bool b .nil
  | int k n => exact .int k n .nil
  | string s => exact .string s .nil
  | pointer a => exact constCell_VR h
  | slice a n c => exact constCell_VR h
  | map r => exact constCell_VR h
  | func fn x y => exact constCell_VR h
  | nilFunc => exact .nilFunc .nil
  | nilIface => exact .nilIface .nil
  | float k b => cases h
  | complex k a b => cases h
  | chan r => cases h
  | iface t v => cases h
theorem VR.cells {v v' : Value} (h : VR σ v v') : VRs σ (cellsL v) v'.cells.toList := by
  cases h
  case agg x x' h1 _ => exact h1
  case bool b _ => exact .bool b .nil
  case int k n _ => exact .int k n .nil
  case string s _ => exact .string s .nil
  case ptrNil _ => exact .ptrNil .nil
  case ptr id off c o s h0 _ => exact .ptr id off c o s h0 .nil
  case slNil _ => exact .slNil .nil
  case slFull id off len size c o s a h0 h1 h2 _ => exact .slFull id off len size c o s a h0 h1 h2 .nil
  case slOpen id off len size cap c o s a h0 h1 h2 h3 _ => exact .slOpen id off len size cap c o s a h0 h1 h2 h3 .nil
  case mapNil _ => exact .mapNil .nil
  case func f x x' y y' h1 h2 _ => exact .func f x x' y y' h1 h2 .nil
  case yld id c o s h0 _ => exact .yld id c o s h0 .nil
  case nilFunc _ => exact .nilFunc .nil
  case nilIface _ => exact .nilIface .nil
  case iface t w w' h1 _ => exact .iface t w w' h1 .nil
  case tuple x x' h1 _ => exact .tuple x x' h1 .nil
end

/-! the heap -/

/-- an abstract block, and the block in which it lies -/
def BR (σ : Loc) (w : World) (id : Nat) (b : Blk) : Prop :=
  ∃ c o s arr ty fr, σ id = some (c, o, s) ∧ w.heap[c]? = some (.cells arr ty fr) ∧ arr.size = s ∧ o + b.cells.length ≤ s ∧
    VRs σ b.cells ((arr.toList.drop o).take b.cells.length) ∧ (b.wr = true → fr.1 ≤ fr.2 ∧ ∀ i, i < s → (fr.1 ≤ i && i < fr.2) = false)

structure SimF (σ : Loc) (B : Nat) (h : Nat → Option Blk) (w : World) : Prop where
  blk : ∀ id b, h id = some b → BR σ w id b
  own : ∀ id b, h id = some b → b.wr = true → ∃ c o s, σ id = some (c, o, s) ∧ B ≤ c
  excl : ∀ i j bi bj, i ≠ j → h i = some bi → h j = some bj → bi.wr = true → ∀ c o s c' o' s', σ i = some (c, o, s) → σ j = some (c', o', s') → c ≠ c'

/-- a block that may be written lies there -/
def Owned (σ : Loc) (h : Nat → Option Blk) (c : Nat) : Prop := ∃ id b o s, h id = some b ∧ b.wr = true ∧ σ id = some (c, o, s)

/-- from one state to another one: what is new lies at new places; what isn't owned stays -/
structure Goes (B : Nat) (σ : Loc) (h : Nat → Option Blk) (n : Nat) (w : World) (τ : Loc) (h' : Nat → Option Blk) (n' : Nat) (w' : World) : Prop where
  sim : SimF τ B h' w'
  le : n ≤ n'
  ext : ∀ id, id < n ∨ n' ≤ id → τ id = σ id
  mono : ∀ id x, σ id = some x → τ id = some x
  os : w'.os = w.os
  tape : w'.tape = w.tape
  output : w'.output = w.output
  size : w.heap.size ≤ w'.heap.size
  keep : ∀ c, c < w.heap.size → ¬ Owned σ h c → w'.heap[c]? = w.heap[c]?
  owned : ∀ c, Owned τ h' c → c < w.heap.size → Owned σ h c

theorem Goes.refl {B : Nat} {σ : Loc} {h : Nat → Option Blk} {n : Nat} {w : World} (hs : SimF σ B h w) : Goes B σ h n w σ h n w :=
  ⟨hs, Nat.le_refl _, fun _ _ => rfl, fun _ _ h => h, rfl, rfl, rfl, Nat.le_refl _, fun _ _ _ => rfl, fun _ h _ => h⟩
theorem Goes.trans {B : Nat} {σ τ υ : Loc} {h h1 h2 : Nat → Option Blk} {n n1 n2 : Nat} {w w1 w2 : World} (a : Goes B σ h n w τ h1 n1 w1) (b : Goes B τ h1 n1 w1 υ h2 n2 w2) :
    Goes B σ h n w υ h2 n2 w2 := by
  refine ⟨b.sim, Nat.le_trans a.le b.le, fun id hid => ?_, fun id x hx => b.mono _ _ (a.mono _ _ hx), b.os.trans a.os, b.tape.trans a.tape, b.output.trans a.output, Nat.le_trans a.size b.size,
    fun c hc hno => ?_, fun c ho hc => a.owned c (b.owned c ho (Nat.lt_of_lt_of_le hc a.size)) hc⟩
  · have h1 := a.le; have h2 := b.le
    rw [b.ext id (by omega), a.ext id (by omega)]
  · rw [b.keep c (Nat.lt_of_lt_of_le hc a.size) (fun ho => hno (a.owned c ho hc)), a.keep c hc hno]
/-- the world alone has drawn -/
theorem Goes.drew {B : Nat} {σ : Loc} {h : Nat → Option Blk} {n : Nat} {w : World} (hs : SimF σ B h w) (k : Nat) : Goes B σ h n w σ h n { w with drawn := k } :=
  ⟨⟨hs.blk, hs.own, hs.excl⟩, Nat.le_refl _, fun _ _ => rfl, fun _ _ h => h, rfl, rfl, rfl, Nat.le_refl _, fun _ _ _ => rfl, fun _ h _ => h⟩

open Classical in
/-- what changed between two heaps, laid over a third one -/
noncomputable def upd (h : Nat → Option Blk) (H H' : Heap) : Nat → Option Blk := fun id => if H'.get id = H.get id then h id else H'.get id

def Sub (H : Heap) (h : Nat → Option Blk) : Prop := ∀ id b, H.get id = some b → h id = some b
theorem upd_refl (h : Nat → Option Blk) (H : Heap) : upd h H H = h := by funext id; simp [upd]
theorem Sub.upd {H H' : Heap} {h : Nat → Option Blk} (hs : Sub H h) : Sub H' (upd h H H') := by
  intro id b hb
  unfold Ab.upd
  split
  · rename_i e; exact hs id b (e ▸ hb)
  · exact hb
end Go.Ab
