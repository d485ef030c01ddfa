/- texts of the proof, one behind the other -/
import Derived.Test.YtnemiikeflojaaaUA
set_option linter.unusedVariables false
set_option maxRecDepth 100000
namespace J
open Go Go.Ab
variable {H : Heap} {Γ : List (Nat × Blk)} {K : Value → Heap → Prop} {v w x : Value} {xs ys : List Int} {j p : Nat} {e : Int}
abbrev agg (l : List Value) : Value := .agg l.toArray
theorem loadAll_at [lp : LpC] {p n : Nat} {cs : List Value} {w : Bool} {K : Value → Heap → Prop} (h : St H Γ) (i : Nat) (hi : Γ[i]? = some (p, ⟨cs, w⟩)) (hn : cs.length = n) (hp : 0 < n) (hk : K (agg cs) H) : opW (loadAgg n (ptr p 0) H) K := by
  refine loadAgg_at h i hi (show _ = cs from ?_) hn hp hk
  rw [List.drop_zero]
  exact List.take_of_length_le (Nat.le_of_eq hn)
theorem storeAll_at [lp : LpC] {p n : Nat} {cs new : List Value} {K : Value → Heap → Prop} (h : St H Γ) (i : Nat) (hi : Γ[i]? = some (p, ⟨cs, true⟩)) (hn : cs.length = n) (hl : new.length = n) (h1 : new.all oneCell = true)
    (hk : ∀ H', St H' (Γ.set i (p, ⟨new, true⟩)) → K undef H') : opW (storeTo n (ptr p 0) (agg new) H) K := by
  refine store_at h i hi hl (by omega) h1 fun H' hO => hk H' ?_
  have e : cs.take 0 ++ (cellsL (agg new) ++ cs.drop (0 + n)) = new := by
    rw [List.drop_of_length_le (by omega)]
    show [] ++ (new ++ []) = new
    simp
  rw [e] at hO; exact hO
theorem ext0 {a b : Value} : extA 0 (.tuple [a, b].toArray) = some a := rfl
theorem ext1 {a b : Value} : extA 1 (.tuple [a, b].toArray) = some b := rfl
theorem St.mid [lp : LpC] {L R : List (Nat × Blk)} (h : St H ((Γ ++ L) ++ R)) : St H (Γ ++ R) := h.sub (List.Sublist.append (List.sublist_append_left Γ L) (List.Sublist.refl R))
abbrev MadeB (Γ : List (Nat × Blk)) (K : Value → Heap → Prop) (xs : List Int) : Prop := ∀ (H' : Heap) (v' : Value) (cs' : List Value), St H' (Γ ++ outB v' cs') → OwnB v' xs cs' → K v' H'
theorem MadeB.none (h : MadeB Γ K []) (hO : St H Γ) : K nilSl H := h H nilSl [] (by show St H (Γ ++ []); rw [List.append_nil]; exact hO) OwnB.nil
theorem bs46_0 (H : Heap) : (buildSliceC P 22 0).f [] H = some (sl H.next 0 0 3, H.push []) := by kernel_rfl
def tkB (xs : List Int) (e : Int) (n : Nat) : List Int := if e = 0 ∧ n ≤ xs.length then xs.take n else []
abbrev Inh (v : Value) (xs : List Int) (v' : Value) (ys : List Int) : Prop := ∀ Γ' : List (Nat × Blk), RdB Γ' v xs → RdB Γ' v' ys
theorem Inh.none {v : Value} {xs : List Int} : Inh v xs nilSl [] := fun _ _ => .nil
theorem slice_hi (h : RdB Γ v xs) {n : Nat} (hn : n ≤ xs.length) : ∃ v', sliceSl 1 v none (some (int n)) none = some v' ∧ Inh v xs v' (xs.take n) := by
  rcases h with ⟨rfl, rfl⟩ | ⟨p, o, c, rfl, hc, _⟩
  · have : n = 0 := by simpa using hn
    subst this
    exact ⟨nilSl, rfl, .none⟩
  · obtain ⟨c', hc', he⟩ := slice_to (o := o) (p := p) (n := xs.length) (h := (n : Int)) (by omega) (by omega) hc
    rw [Int.toNat_natCast] at he
    refine ⟨_, he, fun Γ' h => ?_⟩
    rcases h with ⟨h, _⟩ | ⟨p', o', c'', heq, _, h⟩
    · cases h
    cases heq
    refine .inr ⟨p, o, c', by rw [List.length_take, Nat.min_eq_left hn], hc', ?_⟩
    rcases h with rfl | ⟨j, b, h1, h2⟩
    · exact .inl (by simp)
    · refine .inr ⟨j, b, h1, ?_⟩
      rw [List.length_take, Nat.min_eq_left hn]
      have := congrArg (List.take n) h2
      rw [List.take_take, Nat.min_eq_left hn] at this
      rw [this, by8, by8, List.map_take]
theorem RdB.bytes (hb : ∀ x ∈ xs, 0 ≤ x ∧ x ≤ 255) (n : Nat) (e : Int) : ∀ x ∈ tkB xs e n, 0 ≤ x ∧ x ≤ 255 := by
  unfold tkB
  split
  · exact fun x hx => hb x (List.mem_of_mem_take hx)
  · simp
end J
set_option linter.unusedVariables false
set_option linter.unusedSimpArgs false
set_option maxRecDepth 100000
namespace J
open Go Go.Ab
variable {H : Heap} {Γ : List (Nat × Blk)} {K : Value → Heap → Prop} {v w x : Value} {xs ys : List Int} {j p : Nat} {e : Int}
section
variable {α : Type} {f : α → List Value} {l : List α} {n i o m : Nat}
theorem flat_len (hw : ∀ x ∈ l, (f x).length = n) : (l.flatMap f).length = l.length * n := by
  induction l with
  | nil => simp
  | cons a l ih =>
    rw [List.flatMap_cons, List.length_append, ih (fun x h => hw x (List.mem_cons_of_mem _ h)), hw a List.mem_cons_self, List.length_cons, Nat.add_mul]; omega
theorem flat_cut (hw : ∀ x ∈ l, (f x).length = n) (h : i < l.length) : ∃ A B, l.flatMap f = A ++ (f l[i] ++ B) ∧ A.length = i * n ∧ ∀ y, (l.set i y).flatMap f = A ++ (f y ++ B) := by
  refine ⟨(l.take i).flatMap f, (l.drop (i + 1)).flatMap f, ?_, ?_, fun y => ?_⟩
  · conv => lhs; rw [← List.take_append_drop i l, List.drop_eq_getElem_cons h]
    rw [List.flatMap_append, List.flatMap_cons]
  · rw [flat_len (fun x h => hw x (List.mem_of_mem_take h)), List.length_take, Nat.min_eq_left (by omega)]
  · rw [List.set_eq_take_append_cons_drop, if_pos h, List.flatMap_append, List.flatMap_cons]
theorem flat_at (hw : ∀ x ∈ l, (f x).length = n) (h : i < l.length) (hm : o + m ≤ n) : ((l.flatMap f).drop (i * n + o)).take m = ((f l[i]).drop o).take m := by
  obtain ⟨A, B, e, ha, _⟩ := flat_cut hw h
  have hl := hw _ (List.getElem_mem h)
  rw [e, ← List.drop_drop, ← ha, List.drop_left, List.drop_append_of_le_length (by omega), List.take_append_of_le_length (by rw [List.length_drop]; omega)]
theorem flat_put (hw : ∀ x ∈ l, (f x).length = n) (h : i < l.length) {y : α} {new : List Value} (hm : o + new.length ≤ n) (hy : f y = (f l[i]).take o ++ (new ++ (f l[i]).drop (o + new.length))) :
    (l.flatMap f).take (i * n + o) ++ (new ++ (l.flatMap f).drop (i * n + o + new.length)) = (l.set i y).flatMap f := by
  obtain ⟨A, B, e, ha, hs⟩ := flat_cut hw h
  have hl := hw _ (List.getElem_mem h)
  rw [hs, hy, e, ← ha]
  have e1 : (A ++ (f l[i] ++ B)).take (A.length + o) = A ++ (f l[i]).take o := by
    rw [List.take_length_add_append, List.take_append_of_le_length (by omega)]
  have e2 : (A ++ (f l[i] ++ B)).drop (A.length + o + new.length) = (f l[i]).drop (o + new.length) ++ B := by
    rw [Nat.add_assoc, List.drop_length_add_append, List.drop_append_of_le_length (by omega)]
  rw [e1, e2]
  simp
theorem flat_get (hw : ∀ x ∈ l, (f x).length = n) (h : i < l.length) (hm : o < n) : (l.flatMap f)[i * n + o]? = (f l[i])[o]? := by
  obtain ⟨A, B, e, ha, _⟩ := flat_cut hw h
  have hl := hw _ (List.getElem_mem h)
  rw [e, ← ha, List.getElem?_append_right (by omega), Nat.add_sub_cancel_left, List.getElem?_append_left (by omega)]
end
theorem _root_.Go.Ab.St.rot [lp : LpC] {A B : List (Nat × Blk)} (h : St H ((Γ ++ A) ++ B)) : St H ((Γ ++ B) ++ A) := h.perm (by
  rw [List.append_assoc, List.append_assoc]
  exact List.Perm.append_left Γ List.perm_append_comm)
theorem append_elem2 [lp : LpC] {size bytes n q c : Nat} {cs new : List Value} {b : Bool} (hO : St H ((Γ ++ outB v cs) ++ [(q, ⟨new, b⟩)])) (hv : Own size v n cs) (hs : new.length = size) (hp : 0 < size) (h1 : new.all oneCell = true)
    (hr : (n + 1) * bytes ≤ 140737488355328) (hr2 : n + 1 ≤ 9223372036854775807)
    (hk : ∀ p' H', St H' (Γ ++ [(p', ⟨cs ++ new, true⟩)]) → Own size (sl p' 0 (n + 1) (2 * size)) (n + 1) (cs ++ new) → K (sl p' 0 (n + 1) (2 * size)) H') : opW (appendWith size bytes v (sl q 0 1 c) H) K := by
  have hO2 := hO.rot
  refine append_own hO2 hv hp (m := 1) rfl (new := new) ?_ (by omega) hr hr2 h1 (by omega) ?_
  · have hg := hO.at ((Γ ++ outB v cs).length + 0) (at_r rfl) (b := ⟨new, b⟩) (.inr (by intro h; simp only at h; rw [h] at hs; simp at hs; omega))
    rw [elems_sl hg (by simp [hs])]
    rw [List.drop_zero, Nat.one_mul, List.take_of_length_le (Nat.le_of_eq hs)]
  · intro p' H' hO' hv'
    refine hk _ _ ?_ hv'
    show St H' (Γ ++ [(p', ⟨cs ++ new, true⟩)])
    exact St.sub hO' (List.Sublist.append (List.sublist_append_left _ _) (List.Sublist.refl _))
theorem append_elem [lp : LpC] {size bytes n q c : Nat} {cs new : List Value} {b : Bool} (hO : St H ((Γ ++ outB v cs) ++ [(q, ⟨new, b⟩)])) (hv : Own size v n cs) (hs : new.length = size) (hp : 0 < size) (h1 : new.all oneCell = true)
    (hr : (n + 1) * bytes ≤ 140737488355328) (hr2 : n + 1 ≤ 9223372036854775807)
    (hk : ∀ v' H', St H' (Γ ++ outB v' (cs ++ new)) → Own size v' (n + 1) (cs ++ new) → K v' H') : opW (appendWith size bytes v (sl q 0 1 c) H) K :=
  append_elem2 hO hv hs hp h1 hr hr2 fun p' H' h1 h2 => hk _ _ h1 h2
abbrev sec (s : List Int) : Value := agg (by8 s)
def blank : List Int := List.replicate 64 255
def zeros : List Int := List.replicate 64 0
theorem by8_len (s : List Int) : (by8 s).length = s.length := by simp [by8]
theorem by8_one (s : List Int) : (by8 s).all oneCell = true := by simp [by8, oneCell]
theorem by8_simple (xs : List Int) : (by8 xs).all simpleB = true := by simp [simpleB, simple0]
theorem zcS : zc P 37 = by8 zeros := by kernel_rfl
theorem bS : (buildC P 37).f [] = some (sec zeros) := by kernel_rfl
def kSec : List CK := List.replicate 64 (.i .u8)
theorem fS : flatK P 100 37 = some kSec := by kernel_rfl
theorem fit_by8 : ∀ (s : List Int), Fit (List.replicate s.length (.i .u8)) (by8 s)
  | [] => trivial
  | _ :: s => ⟨rfl, fit_by8 s⟩
theorem fitSec {s : List Int} (h : s.length = 64) : Fit kSec (by8 s) := by
  have := fit_by8 s
  rw [h] at this; exact this
theorem eqCells_by8 : ∀ (a b : List Int), eqCells (by8 a) (by8 b) = decide (a = b)
  | [], [] => rfl
  | [], _ :: _ => rfl
  | _ :: _, [] => rfl
  | x :: a, y :: b => by
    show (decide (x = y) && eqCells (by8 a) (by8 b)) = _
    rw [eqCells_by8 a b]
    by_cases h : x = y
    · subst h; simp
    · simp [h]
theorem neS {a b : List Int} (c : Bool) (ha : a.length = 64) (hb : b.length = 64) : (binC P .neq 37 c).f (sec a) (sec b) = some (.bool (decide (a ≠ b))) := by
  rw [bin_neq_f fS (by kernel_rfl) (by kernel_rfl) (fitSec ha) (fitSec hb), eqCells_by8]
  simp
theorem fill_set {y : Nat} (h : y < 64) : (by8 (List.replicate y 255 ++ List.replicate (64 - y) 0)).set (0 + ((y : Int)).toNat * 1) (.int .u8 255) = by8 (List.replicate (y + 1) 255 ++ List.replicate (64 - (y + 1)) 0) := by
  have e : 0 + ((y : Int)).toNat * 1 = y := by rw [Int.toNat_natCast]; omega
  rw [e, show 64 - y = (64 - (y + 1)) + 1 by omega, List.replicate_succ]
  have e2 : by8 (List.replicate y 255 ++ 0 :: List.replicate (64 - (y + 1)) 0) = by8 (List.replicate y 255) ++ (.int .u8 0 :: by8 (List.replicate (64 - (y + 1)) 0)) := by simp [by8]
  rw [e2, List.set_append_right _ _ (by rw [by8_len]; simp), by8_len, List.length_replicate, Nat.sub_self, List.set_cons_zero, List.replicate_succ']
  simp [by8]
theorem Blank_spec [lp : LpC] (hO : St H Γ) (hk : ∀ H', St H' Γ → K (sec blank) H') : wCall P n_flash_Blank [] H K := by
  apply flash_Blank_ok; unfold flash_Blank
  rw [zcS]
  refine new_at hO ?_
  intro p0 H hO
  refine new_at hO ?_
  intro p1 H hO
  rw [List.append_assoc] at hO
  refine flash_Blank_L0_ind (fun k l' H' => ∃ y : Nat, y ≤ 64 ∧ k = 64 - y ∧ l' = [ptr p0 0, ptr p1 0, int y] ∧ St H' (Γ ++ [(p0, ⟨by8 zeros, true⟩), (p1, ⟨by8 (List.replicate y 255 ++ List.replicate (64 - y) 0), true⟩)])) _ _ ?_ 64 _ _ ⟨0, by omega, rfl, rfl, hO⟩
  clear hO
  rintro k l' H' ⟨y, hy, rfl, rfl, hO⟩
  unfold flash_Blank_L0
  try simp only [nth_zero, nth_succ]
  repeat (first | refine oi ?_ | refine ow ?_ | refine wy ?_ | refine wn ?_ | refine wt ?_ | refine wf' ?_ | refine cy ?_ | refine cn ?_)
  refine wIf_dec (fun h => ?_) (fun h => ?_)
  · have hyl : y < 64 := by omega
    refine opP_i (idxPtr_ok (by omega) (by omega)) ?_
    refine store1_at hO (Γ.length + 1) (at_r rfl) rfl (by rw [by8_len]; simp; omega) (fill_set hyl) ?_
    intro H hO
    repeat (first | refine oi ?_ | refine ow ?_ | refine wy ?_ | refine wn ?_ | refine wt ?_ | refine wf' ?_ | refine cy ?_ | refine cn ?_)
    exact ⟨_, by omega, y + 1, by omega, rfl, rfl, hO.set_r⟩
  · have e : y = 64 := by omega
    subst e
    repeat (first | refine oi ?_ | refine ow ?_ | refine wy ?_ | refine wn ?_ | refine wt ?_ | refine wf' ?_ | refine cy ?_ | refine cn ?_)
    refine loadAll_at hO (Γ.length + 1) (at_r rfl) (by rw [by8_len]; rfl) (by omega) ?_
    refine storeAll_at hO (Γ.length + 0) (at_r rfl) (by rw [by8_len]; rfl) (by rw [by8_len]; rfl) (by8_one _) ?_
    intro H hO
    refine loadAll_at hO (Γ.length + 0) (by rw [Go.Ab.set_r]; exact at_r rfl) (by rw [by8_len]; rfl) (by omega) ?_
    exact hk _ (hO.set_r).left
end J
set_option linter.unusedVariables false
set_option linter.unusedSimpArgs false
set_option maxRecDepth 100000
namespace J
open Go Go.Ab
variable {H : Heap} {Γ : List (Nat × Blk)} {K : Value → Heap → Prop} {v w x : Value} {xs ys : List Int} {j p : Nat} {e : Int}
structure Cell where
  kept : List Int
  seen : List Int
  wear : Int
structure Dv where
  cells : List Cell
  done : List (Nat × List Int)
  most : Int
  budget : Int
  down : Bool
def cel (c : Cell) : List Value := by8 c.kept ++ (by8 c.seen ++ [int c.wear])
def celC (l : List Cell) : List Value := l.flatMap cel
def chg (c : Nat × List Int) : List Value := int c.1 :: by8 c.2
def chgC (l : List (Nat × List Int)) : List Value := l.flatMap chg
structure Cell.Ok (c : Cell) : Prop where
  k : c.kept.length = 64
  s : c.seen.length = 64
  w : 0 ≤ c.wear ∧ c.wear ≤ 100000
structure Dv.Ok (d : Dv) : Prop where
  c : ∀ c ∈ d.cells, c.Ok
  n : d.cells.length ≤ 4096
  ds : ∀ x ∈ d.done, x.1 < d.cells.length ∧ x.2.length = 64
  m : d.most ≤ 100000
  b : -1 ≤ d.budget ∧ d.budget ≤ 9223372036854775807
theorem cel_len {c : Cell} (h : c.Ok) : (cel c).length = 129 := by simp [cel, by8_len, h.k, h.s]
theorem chg_len {c : Nat × List Int} (h : c.2.length = 64) : (chg c).length = 65 := by simp [chg, by8_len, h]
theorem cel_simple (c : Cell) : (cel c).all simpleB = true := by simp [cel, simpleB, simple0]
theorem cel_one (c : Cell) : (cel c).all oneCell = true := by simp [cel, by8, oneCell]
theorem chg_one (c : Nat × List Int) : (chg c).all oneCell = true := by simp [chg, by8, oneCell]
theorem celC_simple (l : List Cell) : (celC l).all simpleB = true := by
  simp only [celC, List.all_flatMap, List.all_eq_true]
  intro c _ x hx
  exact List.all_eq_true.1 (cel_simple c) x hx
theorem celC_len {l : List Cell} (h : ∀ c ∈ l, c.Ok) : (celC l).length = l.length * 129 := flat_len fun c hc => cel_len (h c hc)
def dv (pc : Nat) (vd : Value) (d : Dv) : List Value := [sl pc 0 d.cells.length 259, vd, int d.most, int d.budget, .bool d.down]
abbrev DW (pd pc : Nat) (vd : Value) (d : Dv) : List (Nat × Blk) := [(pd, ⟨dv pc vd d, true⟩), (pc, ⟨celC d.cells, true⟩)] ++ outB vd (chgC d.done)
abbrev OwnD (vd : Value) (d : Dv) : Prop := Own 65 vd d.done.length (chgC d.done)
def Dv.has (d : Dv) (at' : Int) : Prop := 0 ≤ at' ∧ at' < d.cells.length
instance (d : Dv) (at' : Int) : Decidable (d.has at') := by unfold Dv.has; infer_instance
variable {pd pc : Nat} {vd : Value} {d : Dv} {a : Int}
theorem dSize_spec (hO : St H Γ) (hj : Γ[j]? = some (pd, ⟨dv pc vd d, true⟩)) (hk : K (int d.cells.length) H) : wCall P n_flash_Device_Size [ptr pd 0] H K := by
  apply flash_Device_Size_ok; unfold flash_Device_Size
  repeat (first | refine oi ?_ | refine ow ?_ | refine wy ?_ | refine wn ?_ | refine wt ?_ | refine wf' ?_ | refine cy ?_ | refine cn ?_)
  refine load_at hO j hj rfl ?_
  repeat (first | refine oi ?_ | refine ow ?_ | refine wy ?_ | refine wn ?_ | refine wt ?_ | refine wf' ?_ | refine cy ?_ | refine cn ?_)
  exact hk
theorem cell_spec (hO : St H Γ) (hj : Γ[j]? = some (pd, ⟨dv pc vd d, true⟩)) (hk1 : d.has a → K (ptr pc (a.toNat * 129)) H) (hk0 : ¬ d.has a → K (.pointer none) H) : wCall P n_flash_Device_cell [ptr pd 0, int a] H K := by
  apply flash_Device_cell_ok; unfold flash_Device_cell
  refine join_with (fun l' H' => l' = [ptr pd 0, int a] ∧ H' = H ∧ d.has a) ?_ ?_
  · repeat (first | refine oi ?_ | refine ow ?_ | refine wy ?_ | refine wn ?_ | refine wt ?_ | refine wf' ?_ | refine cy ?_ | refine cn ?_)
    refine wIf_dec (fun h => ?_) (fun h => ?_)
    · repeat (first | refine oi ?_ | refine ow ?_ | refine wy ?_ | refine wn ?_ | refine wt ?_ | refine wf' ?_ | refine cy ?_ | refine cn ?_)
      exact hk0 fun h' => by have := h'.1; omega
    · repeat (first | refine oi ?_ | refine ow ?_ | refine wy ?_ | refine wn ?_ | refine wt ?_ | refine wf' ?_ | refine cy ?_ | refine cn ?_)
      refine load_at hO j hj rfl ?_
      repeat (first | refine oi ?_ | refine ow ?_ | refine wy ?_ | refine wn ?_ | refine wt ?_ | refine wf' ?_ | refine cy ?_ | refine cn ?_)
      refine wIf_dec (fun h2 => ?_) (fun h2 => ?_)
      · exact hk0 fun h' => by have := h'.2; omega
      · exact ⟨rfl, rfl, by omega, by omega⟩
  · rintro l' H' ⟨rfl, rfl, h⟩
    try simp only [nth_zero, nth_succ]
    repeat (first | refine oi ?_ | refine ow ?_ | refine wy ?_ | refine wn ?_ | refine wt ?_ | refine wf' ?_ | refine cy ?_ | refine cn ?_)
    refine load_at hO j hj rfl ?_
    refine opP_i (idxSl_ok h.1 h.2) ?_
    rw [Nat.zero_add]
    exact hk1 h
def zCell : Cell := ⟨zeros, zeros, 0⟩
def Dv.cell (d : Dv) (a : Int) : Cell := d.cells.getD a.toNat zCell
theorem Dv.get {d : Dv} {a : Int} (h : d.has a) : ∃ hi : a.toNat < d.cells.length, d.cells[a.toNat] = d.cell a := by
  have hi : a.toNat < d.cells.length := by have := h.1; have := h.2; omega
  refine ⟨hi, ?_⟩
  unfold Dv.cell
  rw [List.getD_eq_getElem?_getD, List.getElem?_eq_getElem hi]; rfl
theorem Dv.cellOk {d : Dv} {a : Int} (ok : ∀ c ∈ d.cells, c.Ok) (h : d.has a) : (d.cell a).Ok := by
  obtain ⟨hi, e⟩ := Dv.get h
  rw [← e]
  exact ok _ (List.getElem_mem hi)
theorem seen_at {d : Dv} {a : Int} (ok : ∀ c ∈ d.cells, c.Ok) (h : d.has a) : ((celC d.cells).drop (a.toNat * 129 + 64)).take 64 = by8 (d.cell a).seen := by
  obtain ⟨hi, e⟩ := Dv.get h
  unfold celC
  rw [flat_at (fun c hc => cel_len (ok c hc)) hi (by omega), e]
  have hk := (Dv.cellOk ok h)
  unfold cel
  rw [List.drop_left' (by rw [by8_len]; exact hk.k), List.take_left' (by rw [by8_len]; exact hk.s)]
def Dv.read (d : Dv) (a : Int) : List Int × Int := if d.has a then ((d.cell a).seen, 0) else (zeros, 61)
theorem dRead_spec (ok : ∀ c ∈ d.cells, c.Ok) (hO : St H (Γ ++ DW pd pc vd d)) (hk : ∀ H', St H' (Γ ++ DW pd pc vd d) → K (.tuple [sec (d.read a).1, int (d.read a).2].toArray) H') : wCall P n_flash_Device_Read [ptr pd 0, int a] H K := by
  apply flash_Device_Read_ok; unfold flash_Device_Read
  rw [zcS]
  refine new_at hO ?_
  intro p4 H hO
  refine cell_spec hO (at_l (at_r (k := 0) rfl)) ?_ ?_
  · intro h
    unfold Dv.read at hk
    rw [if_pos h] at hk
    refine opP_i (show (binC P .eql 114 true).f _ _ = some (.bool false) from rfl) ?_
    repeat (first | refine oi ?_ | refine ow ?_ | refine wy ?_ | refine wn ?_ | refine wt ?_ | refine wf' ?_ | refine cy ?_ | refine cn ?_)
    refine loadAgg_at hO (Γ.length + 1) (at_l (at_r rfl)) (seen_at ok h) (by rw [by8_len]; exact (Dv.cellOk ok h).s) (by omega) ?_
    refine storeAll_at hO ((Γ ++ DW pd pc vd d).length + 0) (at_r rfl) (by rw [by8_len]; rfl) (by rw [by8_len]; exact (Dv.cellOk ok h).s) (by8_one _) ?_
    intro H hO
    replace hO := hO.set_r
    refine loadAll_at hO ((Γ ++ DW pd pc vd d).length + 0) (at_r rfl) (by rw [by8_len]; exact (Dv.cellOk ok h).s) (by omega) ?_
    exact hk _ hO.left
  · intro h
    unfold Dv.read at hk
    rw [if_neg h] at hk
    refine opP_i (show (binC P .eql 114 true).f _ _ = some (.bool true) from rfl) ?_
    repeat (first | refine oi ?_ | refine ow ?_ | refine wy ?_ | refine wn ?_ | refine wt ?_ | refine wf' ?_ | refine cy ?_ | refine cn ?_)
    refine opP_i bS ?_
    refine storeAll_at hO ((Γ ++ DW pd pc vd d).length + 0) (at_r rfl) (by rw [by8_len]; rfl) (by rw [by8_len]; rfl) (by8_one _) ?_
    intro H hO
    replace hO := hO.set_r
    refine loadAll_at hO ((Γ ++ DW pd pc vd d).length + 0) (at_r rfl) (by rw [by8_len]; rfl) (by omega) ?_
    exact hk _ hO.left
def Dv.step (d : Dv) : Dv := { d with down := d.down || decide (d.budget = 0), budget := if ¬ (d.down = true ∨ d.budget = 0) ∧ 0 < d.budget then d.budget - 1 else d.budget }
theorem step_spec (hb : -1 ≤ d.budget ∧ d.budget ≤ 9223372036854775807) (hO : St H Γ) (hj : Γ[j]? = some (pd, ⟨dv pc vd d, true⟩)) (hk : ∀ H', St H' (Γ.set j (pd, ⟨dv pc vd d.step, true⟩)) → K (.bool !d.step.down) H') : wCall P n_flash_Device_step [ptr pd 0] H K := by
  apply flash_Device_step_ok; unfold flash_Device_step
  have hjl := (List.getElem?_eq_some_iff.1 hj).1
  refine join_with (fun l' H' => l' = [ptr pd 0] ∧ St H' (Γ.set j (pd, ⟨dv pc vd { d with down := d.down || decide (d.budget = 0) }, true⟩))) ?_ ?_
  · repeat (first | refine oi ?_ | refine ow ?_ | refine wy ?_ | refine wn ?_ | refine wt ?_ | refine wf' ?_ | refine cy ?_ | refine cn ?_)
    refine load_at hO j hj rfl ?_
    cases hd : d.down with
    | true =>
      repeat (first | refine oi ?_ | refine ow ?_ | refine wy ?_ | refine wn ?_ | refine wt ?_ | refine wf' ?_ | refine cy ?_ | refine cn ?_)
      refine store1_at hO j hj rfl (show 4 < 5 by omega) rfl ?_
      intro H hO
      refine ⟨rfl, ?_⟩
      simp only [Bool.true_or]
      exact hO
    | false =>
      repeat (first | refine oi ?_ | refine ow ?_ | refine wy ?_ | refine wn ?_ | refine wt ?_ | refine wf' ?_ | refine cy ?_ | refine cn ?_)
      refine load_at hO j hj rfl ?_
      repeat (first | refine oi ?_ | refine ow ?_ | refine wy ?_ | refine wn ?_ | refine wt ?_ | refine wf' ?_ | refine cy ?_ | refine cn ?_)
      refine store1_at hO j hj rfl (show 4 < 5 by omega) rfl ?_
      intro H hO
      refine ⟨rfl, ?_⟩
      simp only [Bool.false_or]
      exact hO
  clear hO
  rintro l' H ⟨rfl, hO⟩
  try simp only [nth_zero, nth_succ]
  have hj2 : (Γ.set j (pd, (⟨dv pc vd { d with down := d.down || decide (d.budget = 0) }, true⟩ : Blk)))[j]? = some (pd, ⟨dv pc vd { d with down := d.down || decide (d.budget = 0) }, true⟩) := List.getElem?_set_self hjl
  refine join_with (fun l' H' => l' = [ptr pd 0] ∧ St H' (Γ.set j (pd, ⟨dv pc vd d.step, true⟩))) ?_ ?_
  · refine join_with (fun l' H' => l' = [ptr pd 0, .bool (decide (¬ (d.down = true ∨ d.budget = 0) ∧ 0 < d.budget))] ∧ H' = H) ?_ ?_
    · repeat (first | refine oi ?_ | refine ow ?_ | refine wy ?_ | refine wn ?_ | refine wt ?_ | refine wf' ?_ | refine cy ?_ | refine cn ?_)
      refine load_at hO j hj2 rfl ?_
      refine opP_i un_not ?_
      by_cases hd : d.down = true ∨ d.budget = 0
      · have e : (d.down || decide (d.budget = 0)) = true := by rcases hd with h | h <;> simp [h]
        rw [show (!({ d with down := d.down || decide (d.budget = 0) } : Dv).down) = false by show (!(d.down || decide (d.budget = 0))) = false; rw [e]; rfl]
        repeat (first | refine oi ?_ | refine ow ?_ | refine wy ?_ | refine wn ?_ | refine wt ?_ | refine wf' ?_ | refine cy ?_ | refine cn ?_)
        exact ⟨by rw [decide_eq_false (fun h => h.1 hd)], rfl⟩
      · have e : (d.down || decide (d.budget = 0)) = false := by
          cases h : d.down with
          | true => exact absurd (.inl h) hd
          | false => simp; exact fun h => hd (.inr h)
        rw [show (!({ d with down := d.down || decide (d.budget = 0) } : Dv).down) = true by show (!(d.down || decide (d.budget = 0))) = true; rw [e]; rfl]
        repeat (first | refine oi ?_ | refine ow ?_ | refine wy ?_ | refine wn ?_ | refine wt ?_ | refine wf' ?_ | refine cy ?_ | refine cn ?_)
        refine load_at hO j hj2 rfl ?_
        repeat (first | refine oi ?_ | refine ow ?_ | refine wy ?_ | refine wn ?_ | refine wt ?_ | refine wf' ?_ | refine cy ?_ | refine cn ?_)
        refine ⟨?_, rfl⟩
        show _ = [ptr pd 0, .bool _]
        rw [decide_eq_decide.2 (show (0 < d.budget) ↔ (¬ (d.down = true ∨ d.budget = 0) ∧ 0 < d.budget) from ⟨fun h => ⟨hd, h⟩, fun h => h.2⟩)]
    rintro l' H' ⟨rfl, rfl⟩
    try simp only [nth_zero, nth_succ]
    refine wIf_dec (fun h => ?_) (fun h => ?_)
    · repeat (first | refine oi ?_ | refine ow ?_ | refine wy ?_ | refine wn ?_ | refine wt ?_ | refine wf' ?_ | refine cy ?_ | refine cn ?_)
      refine load_at hO j hj2 rfl ?_
      repeat (first | refine oi ?_ | refine ow ?_ | refine wy ?_ | refine wn ?_ | refine wt ?_ | refine wf' ?_ | refine cy ?_ | refine cn ?_)
      refine opP_i (bin_subi (by have := h.2; show _ ≤ d.budget - 1; omega) (by show d.budget - 1 ≤ _; omega)) ?_
      repeat (first | refine oi ?_ | refine ow ?_ | refine wy ?_ | refine wn ?_ | refine wt ?_ | refine wf' ?_ | refine cy ?_ | refine cn ?_)
      refine store1_at hO j hj2 rfl (show 3 < 5 by omega) rfl ?_
      intro H hO
      rw [List.set_set] at hO
      refine ⟨trivial, ?_⟩
      have e : d.step = { d with down := d.down || decide (d.budget = 0), budget := d.budget - 1 } := by unfold Dv.step; rw [if_pos h]
      rw [e]; exact hO
    · refine ⟨trivial, ?_⟩
      have e : d.step = { d with down := d.down || decide (d.budget = 0) } := by unfold Dv.step; rw [if_neg h]
      rw [e]; exact hO
  clear hO hj2
  rintro l' H ⟨rfl, hO⟩
  try simp only [nth_zero, nth_succ]
  repeat (first | refine oi ?_ | refine ow ?_ | refine wy ?_ | refine wn ?_ | refine wt ?_ | refine wf' ?_ | refine cy ?_ | refine cn ?_)
  refine load_at hO j (List.getElem?_set_self hjl) rfl ?_
  repeat (first | refine oi ?_ | refine ow ?_ | refine wy ?_ | refine wn ?_ | refine wt ?_ | refine wf' ?_ | refine cy ?_ | refine cn ?_)
  exact hk _ hO
end J
set_option linter.unusedVariables false
set_option linter.unusedSimpArgs false
set_option maxRecDepth 100000
namespace J
open Go Go.Ab
variable {H : Heap} {Γ : List (Nat × Blk)} {K : Value → Heap → Prop} {v w x : Value} {xs ys : List Int} {j p : Nat} {e : Int}
variable {pd pc : Nat} {vd : Value} {d : Dv} {a : Int} {s : List Int}
theorem sec_fn (h : s.length = 64) : ∃ g : Nat → Int, s = (List.range 64).map g := ⟨fun i => s.getD i 0, by
  apply List.ext_getElem?
  intro i
  by_cases hi : i < 64
  · simp [hi, h]
  · rw [List.getElem?_eq_none (by omega), List.getElem?_eq_none (by simp; omega)]⟩
theorem bChg' (a : Int) (g : Nat → Int) : (buildC P 130).f [(0, int a), (1, sec ((List.range 64).map g))] = some (agg (int a :: by8 ((List.range 64).map g))) := by kernel_rfl
theorem bChg (a : Int) (h : s.length = 64) : (buildC P 130).f [(0, int a), (1, sec s)] = some (agg (int a :: by8 s)) := by
  obtain ⟨g, rfl⟩ := sec_fn h
  exact bChg' a g
theorem bsChg' (a : Int) (g : Nat → Int) (H : Heap) : (buildSliceC P 72 1).f [(0, agg (int a :: by8 ((List.range 64).map g)))] H = some (sl H.next 0 1 131, H.push (int a :: by8 ((List.range 64).map g))) := by kernel_rfl
theorem bsChg (a : Int) (h : s.length = 64) (H : Heap) : (buildSliceC P 72 1).f [(0, agg (int a :: by8 s))] H = some (sl H.next 0 1 131, H.push (int a :: by8 s)) := by
  obtain ⟨g, rfl⟩ := sec_fn h
  exact bsChg' a g H
theorem bCell' (g g' : Nat → Int) : (buildC P 77).f [(0, sec ((List.range 64).map g)), (1, sec ((List.range 64).map g'))] = some (agg (cel ⟨(List.range 64).map g, (List.range 64).map g', 0⟩)) := by kernel_rfl
theorem bCell {s s' : List Int} (h : s.length = 64) (h' : s'.length = 64) : (buildC P 77).f [(0, sec s), (1, sec s')] = some (agg (cel ⟨s, s', 0⟩)) := by
  obtain ⟨g, rfl⟩ := sec_fn h
  obtain ⟨g', rfl⟩ := sec_fn h'
  exact bCell' g g'
def Dv.upd (d : Dv) (a : Int) (c : Cell) : Dv := { d with cells := d.cells.set a.toNat c }
def Dv.put (d : Dv) (a : Int) (s : List Int) : Dv := { d with cells := d.cells.set a.toNat { d.cell a with seen := s }, done := d.done ++ [(a.toNat, s)] }
theorem put_seen {c : Cell} (ok : c.Ok) (h : s.length = 64) : cel { c with seen := s } = (cel c).take 64 ++ (by8 s ++ (cel c).drop (64 + (by8 s).length)) := by
  unfold cel
  rw [List.take_left' (by rw [by8_len]; exact ok.k), ← List.drop_drop, List.drop_left' (by rw [by8_len]; exact ok.k), List.drop_left' (by rw [by8_len, by8_len, ok.s, h])]
theorem set_seen (ok : ∀ c ∈ d.cells, c.Ok) (h : d.has a) (hs : s.length = 64) : (celC d.cells).take (a.toNat * 129 + 64) ++ (by8 s ++ (celC d.cells).drop (a.toNat * 129 + 64 + (by8 s).length)) = celC (d.cells.set a.toNat { d.cell a with seen := s }) := by
  obtain ⟨hi, e⟩ := Dv.get h
  have hok := Dv.cellOk ok h
  exact flat_put (fun c hc => cel_len (ok c hc)) hi (by rw [by8_len]; omega) (by rw [e]; exact put_seen hok hs)
theorem celC_has (ok : ∀ c ∈ d.cells, c.Ok) (h : d.has a) : a.toNat * 129 + 129 ≤ (celC d.cells).length := by
  rw [celC_len ok]
  have := h.1; have := h.2
  omega
theorem set_spec (ok : d.Ok) (h : d.has a) (hs : s.length = 64) (hd : d.done.length ≤ 1000000) (hO : St H (Γ ++ DW pd pc vd d)) (hv : OwnD vd d)
    (hk : ∀ H' vd', St H' (Γ ++ DW pd pc vd' (d.put a s)) → OwnD vd' (d.put a s) → K (.tuple [].toArray) H') : wCall P n_flash_Device_set [ptr pd 0, int a, sec s] H K := by
  apply flash_Device_set_ok; unfold flash_Device_set
  refine new_at hO ?_
  intro p5 H hO
  replace hO : St H ((Γ ++ [(p5, ⟨by8 s, true⟩)]) ++ DW pd pc vd d) := St.rot hO
  have i5 : (Γ ++ [(p5, (⟨by8 s, true⟩ : Blk))])[Γ.length + 0]? = some (p5, ⟨by8 s, true⟩) := at_r rfl
  have fin : ∀ {H : Heap} {Δ : List (Nat × Blk)}, St H ((Γ ++ [(p5, ⟨by8 s, true⟩)]) ++ Δ) → St H (Γ ++ Δ) := fun h => St.mid h
  generalize Γ ++ [(p5, (⟨by8 s, true⟩ : Blk))] = Γ' at hO i5 fin
  repeat (first | refine oi ?_ | refine ow ?_ | refine wy ?_ | refine wn ?_ | refine wt ?_ | refine wf' ?_ | refine cy ?_ | refine cn ?_)
  refine load_at hO (Γ'.length + 0) (at_r rfl) rfl ?_
  refine loadAll_at hO (Γ.length + 0) (at_l i5) (by rw [by8_len]; exact hs) (by omega) ?_
  refine opP_i (idxSl_ok h.1 h.2) ?_
  repeat (first | refine oi ?_ | refine ow ?_ | refine wy ?_ | refine wn ?_ | refine wt ?_ | refine wf' ?_ | refine cy ?_ | refine cn ?_)
  rw [Nat.zero_add]
  refine store_at hO (Γ'.length + 1) (at_r rfl) (show (by8 s).length = 64 by rw [by8_len]; exact hs) (by have := celC_has ok.c h; show a.toNat * 129 + 64 + 64 ≤ (celC d.cells).length; omega) (by8_one s) ?_
  intro H hO
  have e1 : (celC d.cells).take (a.toNat * 129 + 64) ++ (by8 s ++ (celC d.cells).drop (a.toNat * 129 + 64 + 64)) = celC (d.upd a { d.cell a with seen := s }).cells := by
    have := set_seen ok.c h hs
    rw [by8_len, hs] at this; exact this
  have l1 : (d.upd a { d.cell a with seen := s }).cells.length = d.cells.length := List.length_set
  replace hO : St H (Γ' ++ DW pd pc vd (d.upd a { d.cell a with seen := s })) := by
    have h3 : St H (Γ' ++ ([(pd, ⟨dv pc vd d, true⟩), (pc, ⟨(celC d.cells).take (a.toNat * 129 + 64) ++ (by8 s ++ (celC d.cells).drop (a.toNat * 129 + 64 + 64)), true⟩)] ++ outB vd (chgC d.done))) := hO.set_r
    have e2 : dv pc vd d = dv pc vd (d.upd a { d.cell a with seen := s }) := by unfold dv; rw [l1]; rfl
    rw [e1, e2] at h3
    exact h3
  repeat (first | refine oi ?_ | refine ow ?_ | refine wy ?_ | refine wn ?_ | refine wt ?_ | refine wf' ?_ | refine cy ?_ | refine cn ?_)
  refine load_at hO (Γ'.length + 0) (at_r rfl) rfl ?_
  refine loadAll_at hO (Γ.length + 0) (at_l i5) (by rw [by8_len]; exact hs) (by omega) ?_
  refine opP_i (bChg a hs) ?_
  have hO' : St H ((Γ' ++ [(pd, ⟨dv pc vd (d.upd a { d.cell a with seen := s }), true⟩), (pc, ⟨celC (d.upd a { d.cell a with seen := s }).cells, true⟩)]) ++ outB vd (chgC d.done)) := by
    rw [List.append_assoc]; exact hO
  refine newSl_at hO' (bsChg a hs _) ?_
  intro q H hO
  have ha : a = ((a.toNat : Nat) : Int) := by have := h.1; omega
  refine append_elem hO hv (by simp [by8_len, hs]) (by omega) (by simp [by8, oneCell]) (by omega) (by omega) ?_
  intro vd' H hO hv'
  rw [List.append_assoc] at hO
  repeat (first | refine oi ?_ | refine ow ?_ | refine wy ?_ | refine wn ?_ | refine wt ?_ | refine wf' ?_ | refine cy ?_ | refine cn ?_)
  obtain ⟨a1, n1, c1, e1⟩ : ∃ a1 n1 c1, vd' = .slice a1 n1 c1 := by rcases hv' with ⟨_, h, _⟩ | ⟨p, rfl | rfl, _⟩; omega; exact ⟨_, _, _, rfl⟩; exact ⟨_, _, _, rfl⟩
  refine store1_at hO (Γ'.length + 0) (at_r rfl) (by rw [e1]; rfl) (show 1 < 5 by omega) rfl ?_
  intro H hO
  have ec : chgC d.done ++ (int a :: by8 s) = chgC (d.put a s).done := by
    show _ = (d.done ++ [(a.toNat, s)]).flatMap chg
    rw [List.flatMap_append]
    show _ = d.done.flatMap chg ++ (int ((a.toNat : Nat) : Int) :: by8 s ++ [])
    rw [← ha, List.append_nil]; rfl
  have h3 := fin hO.set_r
  rw [ec] at h3 hv'
  refine hk _ vd' h3 ?_
  show Own 65 vd' (d.done ++ [(a.toNat, s)]).length _
  rw [List.length_append]
  exact hv'
end J
set_option linter.unusedVariables false
set_option linter.unusedSimpArgs false
set_option maxRecDepth 100000
namespace J
open Go Go.Ab
variable {H : Heap} {Γ : List (Nat × Blk)} {K : Value → Heap → Prop} {v w x : Value} {xs ys : List Int} {j p : Nat} {e : Int}
variable {pd pc : Nat} {vd : Value} {d : Dv} {a : Int} {s : List Int}
theorem Dv.step_ok (ok : d.Ok) : d.step.Ok := ⟨ok.c, ok.n, ok.ds, ok.m, by
  have := ok.b
  unfold Dv.step
  by_cases h : ¬ (d.down = true ∨ d.budget = 0) ∧ 0 < d.budget
  · rw [if_pos h]; have := h.2; show -1 ≤ d.budget - 1 ∧ d.budget - 1 ≤ _; omega
  · rw [if_neg h]; exact this⟩
theorem mem_set_ok {l : List Cell} {i : Nat} {c : Cell} (h : ∀ c ∈ l, c.Ok) (hc : c.Ok) : ∀ x ∈ l.set i c, x.Ok := by
  intro x hx
  rcases List.mem_or_eq_of_mem_set hx with h' | h'
  · exact h x h'
  · rw [h']; exact hc
theorem Dv.put_ok (ok : d.Ok) (h : d.has a) (hs : s.length = 64) : (d.put a s).Ok := by
  have hc := Dv.cellOk ok.c h
  refine ⟨mem_set_ok ok.c ⟨hc.k, hs, hc.w⟩, by show (d.cells.set _ _).length ≤ _; rw [List.length_set]; exact ok.n, ?_, ok.m, ok.b⟩
  intro x hx
  show x.1 < (d.cells.set _ _).length ∧ _
  rw [List.length_set]
  rcases List.mem_append.1 hx with hx | hx
  · exact ok.ds x hx
  · have : x = (a.toNat, s) := by simpa using hx
    subst this
    exact ⟨by have := h.1; have := h.2; show a.toNat < _; omega, hs⟩
def Dv.erase (d : Dv) (a : Int) : Dv × Int :=
  if ¬ d.has a then (d, 61) else if d.down = true then (d, 62) else if d.most ≤ (d.cell a).wear then (d, 64) else if d.step.down = true then (d.step, 62)
  else ((d.step.upd a { d.cell a with wear := (d.cell a).wear + 1 }).put a blank, 0)
def Dv.program (d : Dv) (a : Int) (s : List Int) : Dv × Int :=
  if ¬ d.has a then (d, 61) else if d.down = true then (d, 62) else if (d.cell a).seen ≠ blank then (d, 63) else if d.step.down = true then (d.step, 62)
  else (d.step.put a s, 0)
theorem Dv.program_ok (ok : d.Ok) (hs : s.length = 64) : (d.program a s).1.Ok := by
  unfold Dv.program
  by_cases h : d.has a
  · rw [if_neg (fun h' => h' h)]
    split
    · exact ok
    split
    · exact ok
    split
    · exact Dv.step_ok ok
    exact Dv.put_ok (Dv.step_ok ok) h hs
  · rw [if_pos h]; exact ok
theorem step_at (ok : d.Ok) (hO : St H (Γ ++ DW pd pc vd d)) (hk : ∀ H', St H' (Γ ++ DW pd pc vd d.step) → K (.bool !d.step.down) H') : wCall P n_flash_Device_step [ptr pd 0] H K := by
  refine step_spec ok.b hO (j := Γ.length + 0) (at_r rfl) ?_
  intro H' h
  exact hk H' h.set_r
set_option maxHeartbeats 1000000 in
theorem dProgram_spec (ok : d.Ok) (hs : s.length = 64) (hd : d.done.length ≤ 1000000) (hO : St H (Γ ++ DW pd pc vd d)) (hv : OwnD vd d)
    (hk : ∀ H' vd', St H' (Γ ++ DW pd pc vd' (d.program a s).1) → OwnD vd' (d.program a s).1 → K (int (d.program a s).2) H') : wCall P n_flash_Device_Program [ptr pd 0, int a, sec s] H K := by
  apply flash_Device_Program_ok; unfold flash_Device_Program
  unfold Dv.program at hk
  refine new_at hO ?_
  clear hO
  intro p5 H hO
  replace hO : St H ((Γ ++ [(p5, ⟨by8 s, true⟩)]) ++ DW pd pc vd d) := St.rot hO
  have i5 : (Γ ++ [(p5, (⟨by8 s, true⟩ : Blk))])[Γ.length + 0]? = some (p5, ⟨by8 s, true⟩) := at_r rfl
  have fin : ∀ {H : Heap} {Δ : List (Nat × Blk)}, St H ((Γ ++ [(p5, ⟨by8 s, true⟩)]) ++ Δ) → St H (Γ ++ Δ) := fun h => St.mid h
  generalize Γ ++ [(p5, (⟨by8 s, true⟩ : Blk))] = Γ' at hO i5 fin
  refine cell_spec hO (at_r (k := 0) rfl) ?_ ?_
  · intro h
    rw [if_neg (fun h' => h' h)] at hk
    refine opP_i (show (binC P .eql 114 true).f _ _ = some (.bool false) from rfl) ?_
    repeat (first | refine oi ?_ | refine ow ?_ | refine wy ?_ | refine wn ?_ | refine wt ?_ | refine wf' ?_ | refine cy ?_ | refine cn ?_)
    refine load_at hO (Γ'.length + 0) (at_r rfl) rfl ?_
    refine wIf_intro (fun hb => ?_) (fun hb => ?_)
    · rw [if_pos hb] at hk
      exact hk _ _ (fin hO) hv
    rw [if_neg (by rw [hb]; simp)] at hk
    repeat (first | refine oi ?_ | refine ow ?_ | refine wy ?_ | refine wn ?_ | refine wt ?_ | refine wf' ?_ | refine cy ?_ | refine cn ?_)
    refine loadAgg_at hO (Γ'.length + 1) (at_r rfl) (seen_at ok.c h) (by rw [by8_len]; exact (Dv.cellOk ok.c h).s) (by omega) ?_
    refine Blank_spec hO ?_
    intro H2 hO2
    refine ⟨same_at hO (Γ'.length + 1) (at_r rfl) hO2 (Γ'.length + 1) (at_r rfl) (celC_simple _), ?_⟩
    refine opP_i (neS _ (Dv.cellOk ok.c h).s rfl) ?_
    clear hO
    refine wIf_dec (fun h1 => ?_) (fun h1 => ?_)
    · rw [if_pos h1] at hk
      exact hk _ _ (fin hO2) hv
    rw [if_neg h1] at hk
    refine step_at ok hO2 ?_
    clear hO2
    intro H hO
    refine opP_i un_not ?_
    rw [Bool.not_not]
    refine wIf_intro (fun h2 => ?_) (fun h2 => ?_)
    · rw [if_pos h2] at hk
      exact hk _ _ (fin hO) hv
    rw [if_neg (by rw [h2]; simp)] at hk
    refine loadAll_at hO (Γ.length + 0) (at_l i5) (by rw [by8_len]; exact hs) (by omega) ?_
    refine set_spec (Dv.step_ok ok) h hs hd hO hv ?_
    clear hO
    intro H vd' hO hv'
    exact hk _ _ (fin hO) hv'
  · intro h
    rw [if_pos h] at hk
    refine opP_i (show (binC P .eql 114 true).f _ _ = some (.bool true) from rfl) ?_
    repeat (first | refine oi ?_ | refine ow ?_ | refine wy ?_ | refine wn ?_ | refine wt ?_ | refine wf' ?_ | refine cy ?_ | refine cn ?_)
    exact hk _ _ (fin hO) hv
end J
set_option linter.unusedVariables false
set_option linter.unusedSimpArgs false
set_option maxRecDepth 100000
namespace J
open Go Go.Ab
variable {H : Heap} {Γ : List (Nat × Blk)} {K : Value → Heap → Prop} {v w x : Value} {xs ys : List Int} {j p : Nat} {e : Int}
variable {pd pc : Nat} {vd : Value} {d : Dv} {a : Int} {s : List Int}
theorem own_blk {vd : Value} {l : List (Nat × List Int)} (hv : Own 65 vd l.length (chgC l)) {y : Nat} (h : y < l.length) : ∃ p c, vd = sl p 0 l.length c ∧ outB vd (chgC l) = [(p, ⟨chgC l, true⟩)] := by
  rcases hv with ⟨rfl, h0, _⟩ | ⟨p, rfl | rfl, _⟩
  · omega
  · exact ⟨p, _, rfl, rfl⟩
  · exact ⟨p, _, rfl, rfl⟩
theorem chg_at {l : List (Nat × List Int)} (hl : ∀ x ∈ l, x.2.length = 64) {y : Nat} (h : y < l.length) : ((chgC l).drop (y * 65)).take 65 = chg l[y] := by
  have := flat_at (f := chg) (o := 0) (m := 65) (fun c hc => chg_len (hl c hc)) h (by omega)
  unfold chgC
  rw [Nat.add_zero] at this
  rw [this, List.drop_zero]
  exact List.take_of_length_le (Nat.le_of_eq (chg_len (hl _ (List.getElem_mem h))))
end J
set_option linter.unusedVariables false
set_option linter.unusedSimpArgs false
set_option maxRecDepth 100000
namespace J
open Go Go.Ab
variable {H : Heap} {Γ : List (Nat × Blk)} {K : Value → Heap → Prop} {v w x : Value} {xs ys : List Int} {j p : Nat} {e : Int}
variable {pd pc : Nat} {vd : Value} {d : Dv} {a : Int} {s : List Int}
theorem dw_cells {Γ' : List (Nat × Blk)} {d d' : Dv} {cs : List Value} (hO : St H ((Γ' ++ DW pd pc vd d).set (Γ'.length + 1) (pc, ⟨cs, true⟩))) (hc : cs = celC d'.cells) (hl : d'.cells.length = d.cells.length) (h1 : d'.done = d.done) (h2 : d'.most = d.most) (h3 : d'.budget = d.budget) (h4 : d'.down = d.down) : St H (Γ' ++ DW pd pc vd d') := by
  have h5 : St H (Γ' ++ ([(pd, ⟨dv pc vd d, true⟩), (pc, ⟨cs, true⟩)] ++ outB vd (chgC d.done))) := hO.set_r
  have e : dv pc vd d = dv pc vd d' := by unfold dv; rw [hl, h2, h3, h4]
  rw [hc, e, ← h1] at h5
  exact h5
end J
set_option linter.unusedVariables false
set_option linter.unusedSimpArgs false
set_option maxRecDepth 100000
namespace J
open Go Go.Ab
variable {H : Heap} {Γ : List (Nat × Blk)} {K : Value → Heap → Prop} {v w x : Value} {xs ys : List Int} {j p : Nat} {e : Int}
variable {pd pc : Nat} {vd : Value} {d : Dv} {a : Int} {s : List Int}
theorem mkCells : makeSliceC P 71 = ⟨makeSl 129 136 (cel zCell)⟩ := by kernel_rfl
theorem repl_flat {α : Type} (f : α → List Value) (z : α) : ∀ n : Nat, repl n (f z) = (List.replicate n z).flatMap f
  | 0 => rfl
  | n + 1 => by
    show appN (f z) (repl n (f z)) = _
    rw [appN_eq, repl_flat f z n, List.replicate_succ, List.flatMap_cons]
theorem bDev (n : Nat) (pc : Nat) (w : Int) : (buildC P 74).f [(0, sl pc 0 n 259), (2, int w), (3, .int .i64 (-1))] = some (agg [sl pc 0 n 259, nilSl, int w, int (-1), .bool false]) := by kernel_rfl
def bCell0 : Cell := ⟨blank, blank, 0⟩
def Dv.new (n : Nat) (w : Int) : Dv := ⟨List.replicate n bCell0, [], w, -1, false⟩
theorem zCell_ok : zCell.Ok := ⟨rfl, rfl, by decide⟩
theorem bCell0_ok : bCell0.Ok := ⟨rfl, rfl, by decide⟩
theorem Dv.new_ok {n : Nat} {w : Int} (hn : n ≤ 4096) (hw : w ≤ 100000) : (Dv.new n w).Ok := by
  refine ⟨fun c hc => ?_, by show (List.replicate n _).length ≤ _; rw [List.length_replicate]; exact hn, fun x hx => (by cases hx), hw, by show -1 ≤ (-1 : Int) ∧ (-1 : Int) ≤ _; omega⟩
  rw [(List.mem_replicate.1 hc).2]; exact bCell0_ok
set_option maxHeartbeats 1000000 in
theorem dNew_spec {n w : Nat} (hn : n ≤ 4096) (hw : w ≤ 100000) (hO : St H Γ) (hk : ∀ H' pd pc, St H' (Γ ++ DW pd pc nilSl (Dv.new n w)) → K (ptr pd 0) H') : wCall P n_flash_New [int n, int w] H K := by
  apply flash_New_ok; unfold flash_New
  refine opW_i min_w ?_
  refine opW_i max_w ?_
  rw [show max (0 : Int) (min (n : Int) 4096) = n by omega, mkCells]
  refine make_at (k := .i64) (k' := .i64) hO (by omega) (by omega) ?_
  clear hO
  intro pc H hO
  refine opW_i min_w ?_
  refine opW_i max_w ?_
  rw [show max (0 : Int) (min (w : Int) 100000) = w by omega]
  refine opP_i (bDev n pc w) ?_
  refine new_at hO ?_
  clear hO
  intro pd H hO
  repeat (first | refine oi ?_ | refine ow ?_ | refine wy ?_ | refine wn ?_ | refine wt ?_ | refine wf' ?_ | refine cy ?_ | refine cn ?_)
  refine load_at hO ((Γ ++ [(pc, (⟨repl n (cel zCell), true⟩ : Blk))]).length + 0) (at_r rfl) rfl ?_
  repeat (first | refine oi ?_ | refine ow ?_ | refine wy ?_ | refine wn ?_ | refine wt ?_ | refine wf' ?_ | refine cy ?_ | refine cn ?_)
  rw [repl_flat] at hO
  replace hO : St H (Γ ++ DW pd pc nilSl { Dv.new n w with cells := List.replicate n zCell }) := by
    have h3 : St H ((Γ ++ [(pc, ⟨celC (List.replicate n zCell), true⟩)]) ++ [(pd, ⟨[sl pc 0 n 259, nilSl, int w, int (-1), .bool false], true⟩)]) := hO
    have h4 := h3.rot
    rw [List.append_assoc] at h4
    have e : dv pc nilSl { Dv.new n w with cells := List.replicate n zCell } = [sl pc 0 n 259, nilSl, int w, int (-1), .bool false] := by unfold dv; rw [List.length_replicate]; rfl
    show St H (Γ ++ ([(pd, ⟨dv pc nilSl { Dv.new n w with cells := List.replicate n zCell }, true⟩), (pc, ⟨celC (List.replicate n zCell), true⟩)] ++ []))
    rw [e]
    exact h4
  refine flash_New_L0_ind (fun k l' H' => ∃ y : Nat, y ≤ n ∧ k = n - y ∧ l' = [.pointer none, ptr pd 0, int n, int y] ∧ St H' (Γ ++ DW pd pc nilSl { Dv.new n w with cells := List.replicate y bCell0 ++ List.replicate (n - y) zCell })) _ _ ?_ n _ _ ⟨0, by omega, rfl, rfl, hO⟩
  clear hO
  rintro k l' H' ⟨y, hy, rfl, rfl, hO⟩
  unfold flash_New_L0
  try simp only [nth_zero, nth_succ]
  repeat (first | refine oi ?_ | refine ow ?_ | refine wy ?_ | refine wn ?_ | refine wt ?_ | refine wf' ?_ | refine cy ?_ | refine cn ?_)
  refine wIf_dec (fun h => ?_) (fun h => ?_)
  · have hyl : y < n := by omega
    generalize hC : List.replicate y bCell0 ++ List.replicate (n - y) zCell = C at *
    have hCl : C.length = n := by rw [← hC]; simp; omega
    have okC : ∀ c ∈ C, c.Ok := by
      intro c hc
      rw [← hC] at hc
      rcases List.mem_append.1 hc with hc | hc
      · rw [(List.mem_replicate.1 hc).2]; exact bCell0_ok
      · rw [(List.mem_replicate.1 hc).2]; exact zCell_ok
    repeat (first | refine oi ?_ | refine ow ?_ | refine wy ?_ | refine wn ?_ | refine wt ?_ | refine wf' ?_ | refine cy ?_ | refine cn ?_)
    refine load_at hO (Γ.length + 0) (at_r rfl) rfl ?_
    refine Blank_spec hO ?_
    intro H2 hO2
    refine ⟨same_at hO (Γ.length + 0) (at_r rfl) hO2 (Γ.length + 0) (at_r rfl) rfl, ?_⟩
    clear hO
    refine Blank_spec hO2 ?_
    intro H3 hO3
    refine ⟨same_at hO2 (Γ.length + 0) (at_r rfl) hO3 (Γ.length + 0) (at_r rfl) rfl, ?_⟩
    clear hO2
    refine opP_i (bCell (s := blank) (s' := blank) rfl rfl) ?_
    refine opP_i (idxSl_ok (by omega) (by show (y : Int) < (C.length : Int); omega)) ?_
    have hcl : (celC C).length = n * 129 := by rw [celC_len okC, hCl]
    have hcy := flat_put (f := cel) (l := C) (i := y) (o := 0) (y := bCell0) (new := cel bCell0) (fun c hc => cel_len (okC c hc)) (by omega) (by rw [cel_len bCell0_ok]; omega) (by rw [List.drop_of_length_le (by rw [cel_len bCell0_ok, cel_len (okC _ (List.getElem_mem _))]; omega)]; simp)
    rw [cel_len bCell0_ok] at hcy
    refine store_at hO3 (Γ.length + 1) (at_r rfl) (show (cel bCell0).length = 129 from cel_len bCell0_ok) (by show _ ≤ (celC C).length; rw [hcl]; omega) (cel_one _) ?_
    clear hO3
    intro H hO
    repeat (first | refine oi ?_ | refine ow ?_ | refine wy ?_ | refine wn ?_ | refine wt ?_ | refine wf' ?_ | refine cy ?_ | refine cn ?_)
    refine ⟨_, by omega, y + 1, by omega, rfl, rfl, dw_cells (d' := { Dv.new n w with cells := List.replicate (y + 1) bCell0 ++ List.replicate (n - (y + 1)) zCell }) hO ?_ ?_ rfl rfl rfl rfl⟩
    · have e1 : 0 + (y : Int).toNat * 129 = y * 129 + 0 := by rw [Int.toNat_natCast]; omega
      rw [e1]
      refine hcy.trans ?_
      show (C.set y bCell0).flatMap cel = celC (List.replicate (y + 1) bCell0 ++ List.replicate (n - (y + 1)) zCell)
      rw [← hC, List.set_append_right _ _ (by simp), List.length_replicate, Nat.sub_self, show n - y = (n - (y + 1)) + 1 by omega, List.replicate_succ, List.set_cons_zero, List.replicate_succ']
      simp [celC]
    · show (_ ++ _ : List Cell).length = C.length
      rw [hCl]; simp; omega
  · have ey : y = n := by omega
    subst ey
    rw [Nat.sub_self, List.replicate_zero, List.append_nil] at hO
    repeat (first | refine oi ?_ | refine ow ?_ | refine wy ?_ | refine wn ?_ | refine wt ?_ | refine wf' ?_ | refine cy ?_ | refine cn ?_)
    exact hk _ pd pc hO
end J
set_option linter.unusedVariables false
set_option linter.unusedSimpArgs false
set_option maxRecDepth 100000
namespace J
open Go Go.Ab
variable {H : Heap} {Γ : List (Nat × Blk)} {K : Value → Heap → Prop} {v w x : Value} {xs ys : List Int} {j p : Nat} {e : Int}
structure Op where
  kind : Int
  part : Int
  pos : Int
  who : Int
structure Mp where
  d : Dv
  spans : List (Nat × Nat)
  who : Int
  ops : List Op
def opC (o : Op) : List Value := [int o.kind, int o.part, int o.pos, int o.who]
def opsC (l : List Op) : List Value := l.flatMap opC
def spC (l : List (Nat × Nat)) : List Value := l.flatMap fun x => [int x.1, int x.2]
structure Mloc where
  pm : Nat
  pd : Nat
  pc : Nat
  ps : Nat
  vd : Value
  vo : Value
def mv (L : Mloc) (m : Mp) : List Value := [ptr L.pd 0, sl L.ps 0 m.spans.length 4, int m.who, L.vo]
abbrev MA (L : Mloc) (m : Mp) : List (Nat × Blk) := [(L.pm, ⟨mv L m, true⟩), (L.ps, ⟨spC m.spans, true⟩)]
abbrev MW (L : Mloc) (m : Mp) : List (Nat × Blk) := MA L m ++ (outB L.vo (opsC m.ops) ++ DW L.pd L.pc L.vd m.d)
structure Mown (L : Mloc) (m : Mp) : Prop where
  d : OwnD L.vd m.d
  o : Own 4 L.vo m.ops.length (opsC m.ops)
structure Mloc.Eq (L L' : Mloc) : Prop where
  m : L'.pm = L.pm
  d : L'.pd = L.pd
  c : L'.pc = L.pc
  s : L'.ps = L.ps
structure Mp.Ok (m : Mp) : Prop where
  d : m.d.Ok
  s : ∀ x ∈ m.spans, x.1 + x.2 ≤ m.d.cells.length
  n : m.spans.length ≤ 16
def Mp.Sm (m : Mp) (N : Nat) : Prop := m.d.done.length ≤ N ∧ m.ops.length ≤ N
variable {L : Mloc} {m : Mp} {part pos : Int}
theorem MW.toD (h : St H (Γ ++ MW L m)) : St H (((Γ ++ MA L m) ++ outB L.vo (opsC m.ops)) ++ DW L.pd L.pc L.vd m.d) := by
  rw [List.append_assoc, List.append_assoc]; exact h
theorem MW.ofD (h : St H (((Γ ++ MA L m) ++ outB L.vo (opsC m.ops)) ++ DW L.pd L.pc L.vd m.d)) : St H (Γ ++ MW L m) := by
  rw [List.append_assoc, List.append_assoc] at h; exact h
def Mp.has (m : Mp) (part : Int) : Prop := 0 ≤ part ∧ part < m.spans.length
instance : Decidable (m.has part) := by unfold Mp.has; infer_instance
def Mp.span (m : Mp) (part : Int) : Nat × Nat := m.spans.getD part.toNat (0, 0)
def Mp.size (m : Mp) (part : Int) : Nat := if m.has part then (m.span part).2 else 0
theorem Mp.span_mem (h : m.has part) : m.span part ∈ m.spans := by
  unfold Mp.span
  have : part.toNat < m.spans.length := by have := h.1; have := h.2; omega
  rw [List.getD_eq_getElem?_getD, List.getElem?_eq_getElem this]
  exact List.getElem_mem this
theorem span_at (h : m.has part) : (spC m.spans)[part.toNat * 2 + 0]? = some (int (m.span part).1) ∧ (spC m.spans)[part.toNat * 2 + 1]? = some (int (m.span part).2) := by
  have hi : part.toNat < m.spans.length := by have := h.1; have := h.2; omega
  have e : m.span part = m.spans[part.toNat] := by unfold Mp.span; rw [List.getD_eq_getElem?_getD, List.getElem?_eq_getElem hi]; rfl
  unfold spC
  rw [flat_get (n := 2) (fun _ _ => rfl) hi (by omega), flat_get (n := 2) (fun _ _ => rfl) hi (by omega), e]
  exact ⟨rfl, rfl⟩
theorem mHas_spec (hO : St H (Γ ++ MW L m)) (hk : K (.bool (decide (m.has part))) H) : wCall P n_part_Map_has [ptr L.pm 0, int part] H K := by
  apply part_Map_has_ok; unfold part_Map_has
  repeat (first | refine oi ?_ | refine ow ?_ | refine wy ?_ | refine wn ?_ | refine wt ?_ | refine wf' ?_ | refine cy ?_ | refine cn ?_)
  refine wIf_dec (fun h => ?_) (fun h => ?_)
  · repeat (first | refine oi ?_ | refine ow ?_ | refine wy ?_ | refine wn ?_ | refine wt ?_ | refine wf' ?_ | refine cy ?_ | refine cn ?_)
    refine load_at hO (Γ.length + 0) (at_r rfl) rfl ?_
    repeat (first | refine oi ?_ | refine ow ?_ | refine wy ?_ | refine wn ?_ | refine wt ?_ | refine wf' ?_ | refine cy ?_ | refine cn ?_)
    rw [decide_eq_decide.2 (show part < (m.spans.length : Int) ↔ m.has part from ⟨fun h2 => ⟨h, h2⟩, fun h2 => h2.2⟩)]
    exact hk
  · repeat (first | refine oi ?_ | refine ow ?_ | refine wy ?_ | refine wn ?_ | refine wt ?_ | refine wf' ?_ | refine cy ?_ | refine cn ?_)
    rw [decide_eq_false (show ¬ m.has part from fun h2 => h h2.1)] at hk
    exact hk
theorem mSize_spec (hO : St H (Γ ++ MW L m)) (hk : K (int (m.size part)) H) : wCall P n_part_Map_Size [ptr L.pm 0, int part] H K := by
  apply part_Map_Size_ok; unfold part_Map_Size
  refine mHas_spec hO ?_
  unfold Mp.size at hk
  refine opP_i un_not ?_
  by_cases h : m.has part
  · rw [if_pos h] at hk
    rw [decide_eq_true h]
    refine wIf_f rfl ?_
    repeat (first | refine oi ?_ | refine ow ?_ | refine wy ?_ | refine wn ?_ | refine wt ?_ | refine wf' ?_ | refine cy ?_ | refine cn ?_)
    refine load_at hO (Γ.length + 0) (at_r rfl) rfl ?_
    refine opP_i (idxSl_ok h.1 h.2) ?_
    repeat (first | refine oi ?_ | refine ow ?_ | refine wy ?_ | refine wn ?_ | refine wt ?_ | refine wf' ?_ | refine cy ?_ | refine cn ?_)
    rw [Nat.zero_add]
    refine load_at hO (Γ.length + 1) (at_r rfl) (span_at h).2 ?_
    exact hk
  · rw [if_neg h] at hk
    rw [decide_eq_false h]
    exact wIf_t rfl hk
def Mp.place (m : Mp) (part pos : Int) : Int × Int := if ¬ m.has part then (0, 71) else if pos < 0 ∨ (m.span part).2 ≤ pos then (0, 61) else ((m.span part).1 + pos, 0)
theorem mPlace_spec (ok : m.Ok) (hO : St H (Γ ++ MW L m)) (hk : K (.tuple [int (m.place part pos).1, int (m.place part pos).2].toArray) H) : wCall P n_part_Map_place [ptr L.pm 0, int part, int pos] H K := by
  apply part_Map_place_ok; unfold part_Map_place
  refine mHas_spec hO ?_
  unfold Mp.place at hk
  refine opP_i un_not ?_
  by_cases h : m.has part
  · rw [if_neg (fun h' => h' h)] at hk
    rw [decide_eq_true h]
    refine wIf_f rfl ?_
    refine join_with (fun l' H' => l' = [ptr L.pm 0, int part, int pos, .bool (decide (pos < 0 ∨ (m.span part).2 ≤ pos))] ∧ H' = H) ?_ ?_
    · repeat (first | refine oi ?_ | refine ow ?_ | refine wy ?_ | refine wn ?_ | refine wt ?_ | refine wf' ?_ | refine cy ?_ | refine cn ?_)
      refine wIf_dec (fun h1 => ?_) (fun h1 => ?_)
      · repeat (first | refine oi ?_ | refine ow ?_ | refine wy ?_ | refine wn ?_ | refine wt ?_ | refine wf' ?_ | refine cy ?_ | refine cn ?_)
        exact ⟨by rw [decide_eq_true (.inl h1)], rfl⟩
      · repeat (first | refine oi ?_ | refine ow ?_ | refine wy ?_ | refine wn ?_ | refine wt ?_ | refine wf' ?_ | refine cy ?_ | refine cn ?_)
        refine load_at hO (Γ.length + 0) (at_r rfl) rfl ?_
        refine opP_i (idxSl_ok h.1 h.2) ?_
        repeat (first | refine oi ?_ | refine ow ?_ | refine wy ?_ | refine wn ?_ | refine wt ?_ | refine wf' ?_ | refine cy ?_ | refine cn ?_)
        rw [Nat.zero_add]
        refine load_at hO (Γ.length + 1) (at_r rfl) (span_at h).2 ?_
        repeat (first | refine oi ?_ | refine ow ?_ | refine wy ?_ | refine wn ?_ | refine wt ?_ | refine wf' ?_ | refine cy ?_ | refine cn ?_)
        exact ⟨by rw [decide_eq_decide.2 (show ((m.span part).2 : Int) ≤ pos ↔ (pos < 0 ∨ (m.span part).2 ≤ pos) by omega)], rfl⟩
    rintro l' H' ⟨rfl, rfl⟩
    try simp only [nth_zero, nth_succ]
    refine wIf_dec (fun h1 => ?_) (fun h1 => ?_)
    · rw [if_pos h1] at hk
      exact hk
    · rw [if_neg h1] at hk
      repeat (first | refine oi ?_ | refine ow ?_ | refine wy ?_ | refine wn ?_ | refine wt ?_ | refine wf' ?_ | refine cy ?_ | refine cn ?_)
      refine load_at hO (Γ.length + 0) (at_r rfl) rfl ?_
      refine opP_i (idxSl_ok h.1 h.2) ?_
      repeat (first | refine oi ?_ | refine ow ?_ | refine wy ?_ | refine wn ?_ | refine wt ?_ | refine wf' ?_ | refine cy ?_ | refine cn ?_)
      rw [Nat.zero_add]
      refine load_at hO (Γ.length + 1) (at_r rfl) (span_at h).1 ?_
      have := ok.s _ (Mp.span_mem h)
      have := ok.d.n
      repeat (first | refine oi ?_ | refine ow ?_ | refine wy ?_ | refine wn ?_ | refine wt ?_ | refine wf' ?_ | refine cy ?_ | refine cn ?_)
      exact hk
  · rw [if_pos h] at hk
    rw [decide_eq_false h]
    exact wIf_t rfl hk
def Mp.read (m : Mp) (part pos : Int) : List Int × Int := if (m.place part pos).2 ≠ 0 then (zeros, (m.place part pos).2) else m.d.read (m.place part pos).1
theorem Dv.read_len {d : Dv} (ok : d.Ok) {a : Int} : (d.read a).1.length = 64 := by
  unfold Dv.read
  by_cases h : d.has a
  · rw [if_pos h]; exact (Dv.cellOk ok.c h).s
  · rw [if_neg h]; rfl
theorem Mp.read_len (ok : m.Ok) : (m.read part pos).1.length = 64 := by
  unfold Mp.read
  split
  · rfl
  · exact Dv.read_len ok.d
theorem mRead_spec (ok : m.Ok) (hO : St H (Γ ++ MW L m)) (hk : ∀ H', St H' (Γ ++ MW L m) → K (.tuple [sec (m.read part pos).1, int (m.read part pos).2].toArray) H') : wCall P n_part_Map_Read [ptr L.pm 0, int part, int pos] H K := by
  apply part_Map_Read_ok; unfold part_Map_Read
  rw [zcS]
  refine new_at hO ?_
  clear hO
  intro p6 H hO
  replace hO := hO.rot
  have i6 : (Γ ++ [(p6, (⟨by8 zeros, true⟩ : Blk))])[Γ.length + 0]? = some (p6, ⟨by8 zeros, true⟩) := at_r rfl
  refine mPlace_spec ok hO ?_
  refine opP_i ext0 ?_
  refine opP_i ext1 ?_
  refine opP_i bin_neq ?_
  unfold Mp.read at hk
  refine wIf_dec (fun h => ?_) (fun h => ?_)
  · rw [if_pos h] at hk
    refine opP_i bS ?_
    refine storeAll_at hO (Γ.length + 0) (at_l i6) (by rw [by8_len]; rfl) (by rw [by8_len]; rfl) (by8_one _) ?_
    clear hO
    intro H hO
    rw [List.set_append_left _ _ (by simp), Go.Ab.set_r] at hO
    refine loadAll_at hO (Γ.length + 0) (at_l (at_r rfl)) (by rw [by8_len]; rfl) (by omega) ?_
    exact hk _ (St.mid hO)
  · rw [if_neg h] at hk
    repeat (first | refine oi ?_ | refine ow ?_ | refine wy ?_ | refine wn ?_ | refine wt ?_ | refine wf' ?_ | refine cy ?_ | refine cn ?_)
    refine load_at hO ((Γ ++ [(p6, (⟨by8 zeros, true⟩ : Blk))]).length + 0) (at_r rfl) rfl ?_
    refine dRead_spec ok.d.c (MW.toD hO) ?_
    clear hO
    intro H hO
    replace hO := MW.ofD hO
    refine opP_i ext0 ?_
    refine opP_i ext1 ?_
    have hl := Dv.read_len ok.d (a := (m.place part pos).1)
    refine storeAll_at hO (Γ.length + 0) (at_l i6) (by rw [by8_len]; rfl) (by rw [by8_len]; exact hl) (by8_one _) ?_
    clear hO
    intro H hO
    rw [List.set_append_left _ _ (by simp), Go.Ab.set_r] at hO
    refine loadAll_at hO (Γ.length + 0) (at_l (at_r rfl)) (by rw [by8_len]; exact hl) (by omega) ?_
    exact hk _ (St.mid hO)
def Mp.note (m : Mp) (o : Op) (e : Int) : Mp := if e = 0 then { m with ops := m.ops ++ [{ o with who := m.who }] } else m
theorem bOps (o : Op) (H : Heap) : (buildSliceC P 44 1).f [(0, agg (opC o))] H = some (sl H.next 0 1 9, H.push (opC o)) := by kernel_rfl
theorem bOp (a b c : Int) : (buildC P 82).f [(0, int a), (1, int b), (2, int c)] = some (agg (opC ⟨a, b, c, 0⟩)) := by kernel_rfl
theorem opsC_snoc (l : List Op) (o : Op) : opsC l ++ opC o = opsC (l ++ [o]) := by simp [opsC]
theorem note_spec {o : Op} (hs : m.ops.length ≤ 1000000000) (hO : St H (Γ ++ MW L m)) (hv : Mown L m)
    (hk : ∀ H' L', L.Eq L' → St H' (Γ ++ MW L' (m.note o e)) → Mown L' (m.note o e) → K (int e) H') : wCall P n_part_Map_note [ptr L.pm 0, agg (opC o), int e] H K := by
  apply part_Map_note_ok; unfold part_Map_note
  refine new_at hO ?_
  clear hO
  intro p4 H hO
  replace hO := hO.rot
  have i4 : (Γ ++ [(p4, (⟨opC o, true⟩ : Blk))])[Γ.length + 0]? = some (p4, ⟨opC o, true⟩) := at_r rfl
  replace hO : St H ((Γ ++ [(p4, ⟨opC o, true⟩)]) ++ MW L m) := hO
  refine opP_i bin_eql ?_
  unfold Mp.note at hk
  refine wIf_dec (fun h => ?_) (fun h => ?_)
  · rw [if_pos h] at hk
    repeat (first | refine oi ?_ | refine ow ?_ | refine wy ?_ | refine wn ?_ | refine wt ?_ | refine wf' ?_ | refine cy ?_ | refine cn ?_)
    refine load_at hO ((Γ ++ [(p4, (⟨opC o, true⟩ : Blk))]).length + 0) (at_r rfl) rfl ?_
    repeat (first | refine oi ?_ | refine ow ?_ | refine wy ?_ | refine wn ?_ | refine wt ?_ | refine wf' ?_ | refine cy ?_ | refine cn ?_)
    refine store1_at hO (Γ.length + 0) (at_l i4) rfl (show 3 < 4 by omega) (show _ = opC { o with who := m.who } from rfl) ?_
    clear hO
    intro H hO
    rw [List.set_append_left _ _ (by simp), Go.Ab.set_r] at hO
    replace hO : St H ((Γ ++ [(p4, ⟨opC { o with who := m.who }, true⟩)]) ++ MW L m) := hO
    clear i4
    have i4 : (Γ ++ [(p4, (⟨opC { o with who := m.who }, true⟩ : Blk))])[Γ.length + 0]? = some (p4, ⟨opC { o with who := m.who }, true⟩) := at_r rfl
    have fin : ∀ {H : Heap} {Δ : List (Nat × Blk)}, St H ((Γ ++ [(p4, ⟨opC { o with who := m.who }, true⟩)]) ++ Δ) → St H (Γ ++ Δ) := fun h => St.mid h
    generalize Γ ++ [(p4, (⟨opC { o with who := m.who }, true⟩ : Blk))] = Γ' at hO i4 fin
    repeat (first | refine oi ?_ | refine ow ?_ | refine wy ?_ | refine wn ?_ | refine wt ?_ | refine wf' ?_ | refine cy ?_ | refine cn ?_)
    refine load_at hO (Γ'.length + 0) (at_r rfl) rfl ?_
    refine loadAll_at hO (Γ.length + 0) (at_l i4) rfl (by omega) ?_
    have hO' : St H (((Γ' ++ MA L m) ++ DW L.pd L.pc L.vd m.d) ++ outB L.vo (opsC m.ops)) := (MW.toD hO).rot
    refine newSl_at hO' (bOps _ _) ?_
    clear hO hO'
    intro q H hO
    refine append_elem hO hv.o rfl (by omega) rfl (by omega) (by omega) ?_
    clear hO
    intro vo' H hO hvo
    repeat (first | refine oi ?_ | refine ow ?_ | refine wy ?_ | refine wn ?_ | refine wt ?_ | refine wf' ?_ | refine cy ?_ | refine cn ?_)
    obtain ⟨a1, n1, c1, e1⟩ : ∃ a1 n1 c1, vo' = .slice a1 n1 c1 := by rcases hvo with ⟨_, h, _⟩ | ⟨p, rfl | rfl, _⟩; omega; exact ⟨_, _, _, rfl⟩; exact ⟨_, _, _, rfl⟩
    refine store1_at hO (Γ'.length + 0) (at_l (at_l (at_r rfl))) (by rw [e1]; rfl) (show 3 < 4 by omega) rfl ?_
    clear hO
    intro H hO
    rw [List.set_append_left _ _ (by simp), List.set_append_left _ _ (by simp), Go.Ab.set_r] at hO
    rw [opsC_snoc] at hO hvo
    have h3 : St H (((Γ' ++ MA ⟨L.pm, L.pd, L.pc, L.ps, L.vd, vo'⟩ m) ++ DW L.pd L.pc L.vd m.d) ++ outB vo' (opsC (m.ops ++ [{ o with who := m.who }]))) := hO
    refine hk H ⟨L.pm, L.pd, L.pc, L.ps, L.vd, vo'⟩ ⟨rfl, rfl, rfl, rfl⟩ (fin (MW.ofD (m := { m with ops := m.ops ++ [{ o with who := m.who }] }) h3.rot)) ⟨hv.d, ?_⟩
    show Own 4 vo' (m.ops ++ [_]).length _
    rw [List.length_append]
    exact hvo
  · rw [if_neg h] at hk
    exact hk _ L ⟨rfl, rfl, rfl, rfl⟩ (St.mid hO) hv
end J
set_option linter.unusedVariables false
set_option linter.unusedSimpArgs false
set_option maxRecDepth 100000
namespace J
open Go Go.Ab
variable {H : Heap} {Γ : List (Nat × Blk)} {K : Value → Heap → Prop} {v w x : Value} {xs ys : List Int} {j p : Nat} {e : Int}
variable {L : Mloc} {m : Mp} {part pos : Int} {s : List Int}
def Mp.erase (m : Mp) (part pos : Int) : Mp × Int := if (m.place part pos).2 ≠ 0 then (m, (m.place part pos).2) else (({ m with d := (m.d.erase (m.place part pos).1).1 } : Mp).note ⟨1, part, pos, 0⟩ (m.d.erase (m.place part pos).1).2, (m.d.erase (m.place part pos).1).2)
def Mp.program (m : Mp) (part pos : Int) (s : List Int) : Mp × Int := if (m.place part pos).2 ≠ 0 then (m, (m.place part pos).2) else (({ m with d := (m.d.program (m.place part pos).1 s).1 } : Mp).note ⟨2, part, pos, 0⟩ (m.d.program (m.place part pos).1 s).2, (m.d.program (m.place part pos).1 s).2)
theorem Dv.program_len {d : Dv} {a : Int} : (d.program a s).1.cells.length = d.cells.length := by
  unfold Dv.program
  split
  · rfl
  split
  · rfl
  split
  · rfl
  split
  · rfl
  show (d.step.cells.set _ _).length = _
  rw [List.length_set]; rfl
theorem Dv.program_done {d : Dv} {a : Int} : (d.program a s).1.done.length ≤ d.done.length + 1 := by
  unfold Dv.program
  split
  · exact Nat.le_succ _
  split
  · exact Nat.le_succ _
  split
  · exact Nat.le_succ _
  split
  · exact Nat.le_succ _
  show (d.done ++ [_]).length ≤ _
  simp
theorem Mp.note_d {o : Op} : (m.note o e).d = m.d := by unfold Mp.note; split <;> rfl
theorem Mp.note_s {o : Op} : (m.note o e).spans = m.spans := by unfold Mp.note; split <;> rfl
theorem Mp.note_ops {o : Op} : (m.note o e).ops.length ≤ m.ops.length + 1 := by
  unfold Mp.note; split
  · simp
  · exact Nat.le_succ _
theorem Mp.note_ok {o : Op} (ok : m.Ok) : (m.note o e).Ok := ⟨by rw [Mp.note_d]; exact ok.d, by rw [Mp.note_d, Mp.note_s]; exact ok.s, by rw [Mp.note_s]; exact ok.n⟩
theorem Mp.program_ok (ok : m.Ok) (hs : s.length = 64) : (m.program part pos s).1.Ok := by
  unfold Mp.program
  split
  · exact ok
  · exact Mp.note_ok ⟨Dv.program_ok ok.d hs, by rw [Dv.program_len]; exact ok.s, ok.n⟩
theorem Mp.Sm.mono {N M : Nat} (h : m.Sm N) (hm : N ≤ M) : m.Sm M := ⟨Nat.le_trans h.1 hm, Nat.le_trans h.2 hm⟩
theorem Mp.program_sm {N : Nat} (h : m.Sm N) : (m.program part pos s).1.Sm (N + 1) := by
  unfold Mp.program
  split
  · exact h.mono (Nat.le_succ _)
  · refine ⟨?_, Nat.le_trans Mp.note_ops (Nat.succ_le_succ h.2)⟩
    rw [Mp.note_d]
    exact Nat.le_trans Dv.program_done (Nat.succ_le_succ h.1)
theorem Mloc.Eq.rfl' : L.Eq L := ⟨rfl, rfl, rfl, rfl⟩
theorem Mloc.Eq.trans {L L' L'' : Mloc} (h : L.Eq L') (h' : L'.Eq L'') : L.Eq L'' := ⟨h'.m.trans h.m, h'.d.trans h.d, h'.c.trans h.c, h'.s.trans h.s⟩
theorem MW.dev {d' : Dv} {vd' : Value} (h : St H (((Γ ++ MA L m) ++ outB L.vo (opsC m.ops)) ++ DW L.pd L.pc vd' d')) : St H (Γ ++ MW { L with vd := vd' } { m with d := d' }) := MW.ofD (L := { L with vd := vd' }) (m := { m with d := d' }) h
theorem mProgram_spec (ok : m.Ok) (hl : s.length = 64) (hs : m.Sm 1000000) (hO : St H (Γ ++ MW L m)) (hv : Mown L m)
    (hk : ∀ H' L', L.Eq L' → St H' (Γ ++ MW L' (m.program part pos s).1) → Mown L' (m.program part pos s).1 → K (int (m.program part pos s).2) H') : wCall P n_part_Map_Program [ptr L.pm 0, int part, int pos, sec s] H K := by
  apply part_Map_Program_ok; unfold part_Map_Program
  refine new_at hO ?_
  clear hO
  intro p7 H hO
  replace hO := hO.rot
  replace hO : St H ((Γ ++ [(p7, ⟨by8 s, true⟩)]) ++ MW L m) := hO
  have i7 : (Γ ++ [(p7, (⟨by8 s, true⟩ : Blk))])[Γ.length + 0]? = some (p7, ⟨by8 s, true⟩) := at_r rfl
  have fin : ∀ {H : Heap} {Δ : List (Nat × Blk)}, St H ((Γ ++ [(p7, ⟨by8 s, true⟩)]) ++ Δ) → St H (Γ ++ Δ) := fun h => St.mid h
  generalize Γ ++ [(p7, (⟨by8 s, true⟩ : Blk))] = Γ' at hO i7 fin
  refine mPlace_spec ok hO ?_
  refine opP_i ext0 ?_
  refine opP_i ext1 ?_
  refine opP_i bin_neq ?_
  unfold Mp.program at hk
  refine wIf_dec (fun h => ?_) (fun h => ?_)
  · rw [if_pos h] at hk
    exact hk _ L Mloc.Eq.rfl' (fin hO) hv
  · rw [if_neg h] at hk
    refine opP_i (bOp _ _ _) ?_
    repeat (first | refine oi ?_ | refine ow ?_ | refine wy ?_ | refine wn ?_ | refine wt ?_ | refine wf' ?_ | refine cy ?_ | refine cn ?_)
    refine load_at hO (Γ'.length + 0) (at_r rfl) rfl ?_
    refine loadAll_at hO (Γ.length + 0) (at_l i7) (by rw [by8_len]; exact hl) (by omega) ?_
    refine dProgram_spec ok.d hl hs.1 (MW.toD hO) hv.d ?_
    clear hO
    intro H vd' hO hvd
    refine note_spec (L := { L with vd := vd' }) (m := { m with d := (m.d.program (m.place part pos).1 s).1 }) (by have := hs.2; show m.ops.length ≤ _; omega) (MW.dev hO) ⟨hvd, hv.o⟩ ?_
    clear hO
    intro H L' he hO hv'
    exact hk _ L' ⟨he.m, he.d, he.c, he.s⟩ (fin hO) hv'
end J
set_option linter.unusedVariables false
set_option linter.unusedSimpArgs false
set_option maxRecDepth 100000
namespace J
open Go Go.Ab
variable {H : Heap} {Γ : List (Nat × Blk)} {K : Value → Heap → Prop} {v w x : Value} {xs ys bs : List Int} {j p : Nat} {e : Int}
variable {L : Mloc} {m : Mp} {part pos : Int} {s : List Int}
def spansFrom : Nat → List Nat → List (Nat × Nat)
  | _, [] => []
  | n, x :: l => (n, x) :: spansFrom (n + x) l
theorem spans_len : ∀ (l : List Nat) (n : Nat), (spansFrom n l).length = l.length
  | [], _ => rfl
  | x :: l, n => by show (spansFrom (n + x) l).length + 1 = _; rw [spans_len l]; rfl
theorem spans_take : ∀ (l : List Nat) (n y : Nat) (h : y < l.length), (spansFrom n l).take (y + 1) = (spansFrom n l).take y ++ [(n + (l.take y).sum, l[y])]
  | x :: l, n, 0, _ => by simp [spansFrom]
  | x :: l, n, y + 1, h => by
    have := spans_take l (n + x) y (by simpa using h)
    show (n, x) :: (spansFrom (n + x) l).take (y + 1) = (n, x) :: (spansFrom (n + x) l).take y ++ [(n + (x + (l.take y).sum), _)]
    rw [this, Nat.add_assoc]; rfl
theorem bMap (pd : Nat) : (buildC P 67).f [(0, ptr pd 0)] = some (agg [ptr pd 0, nilSl, int 0, nilSl]) := by kernel_rfl
theorem bSpan (a b : Int) : (buildC P 70).f [(0, int a), (1, int b)] = some (agg [int a, int b]) := by kernel_rfl
theorem bsSpan (a b : Int) (H : Heap) : (buildSliceC P 65 1).f [(0, agg [int a, int b])] H = some (sl H.next 0 1 5, H.push [int a, int b]) := by kernel_rfl
theorem sum_take_le : ∀ (l : List Nat) (y : Nat), (l.take y).sum ≤ l.sum
  | [], y => by simp
  | x :: l, 0 => by simp
  | x :: l, y + 1 => by simp; exact sum_take_le l y
theorem sum_take_succ (l : List Nat) (y : Nat) (h : y < l.length) : (l.take (y + 1)).sum = (l.take y).sum + l[y] := by
  rw [List.take_succ_eq_append_getElem h, List.sum_append]; simp
set_option maxHeartbeats 1000000 in
theorem mNew_spec {pd pc q c : Nat} {vd : Value} {d : Dv} {sizes : List Nat} {jz : Nat} {b : Bool} (ok : d.Ok) (hO : St H (Γ ++ DW pd pc vd d)) (hz : Γ[jz]? = some (q, ⟨sizes.map fun (n : Nat) => int n, b⟩)) (h0 : 0 < sizes.length) (h16 : sizes.length ≤ 16)
    (h1 : ∀ n ∈ sizes, 1 ≤ n) (hs : sizes.sum ≤ d.cells.length) (hv : OwnD vd d)
    (hk : ∀ H' pm ps, St H' (Γ ++ MW ⟨pm, pd, pc, ps, vd, nilSl⟩ ⟨d, spansFrom 0 sizes, 0, []⟩) → Mown ⟨pm, pd, pc, ps, vd, nilSl⟩ ⟨d, spansFrom 0 sizes, 0, []⟩ → K (.tuple [ptr pm 0, int 0].toArray) H') : wCall P n_part_New [ptr pd 0, sl q 0 sizes.length c] H K := by
  apply part_New_ok; unfold part_New
  refine join_with (fun l' H' => l' = [ptr pd 0, sl q 0 sizes.length c, .pointer none, int 0, .bool false] ∧ H' = H) ?_ ?_
  · repeat (first | refine oi ?_ | refine ow ?_ | refine wy ?_ | refine wn ?_ | refine wt ?_ | refine wf' ?_ | refine cy ?_ | refine cn ?_)
    rw [decide_eq_false (by omega)]
    exact ⟨rfl, rfl⟩
  rintro l' H' ⟨rfl, rfl⟩
  try simp only [nth_zero, nth_succ]
  refine wIf_f rfl ?_
  refine opP_i (bMap pd) ?_
  refine new_at hO ?_
  clear hO
  intro pm H hO
  replace hO : St H (((Γ ++ DW pd pc vd d) ++ [(pm, ⟨[ptr pd 0, nilSl, int 0, nilSl], true⟩)]) ++ outB nilSl (spC [])) := by
    show St H (((Γ ++ DW pd pc vd d) ++ [(pm, ⟨[ptr pd 0, nilSl, int 0, nilSl], true⟩)]) ++ [])
    rw [List.append_nil]; exact hO
  repeat (first | refine oi ?_ | refine ow ?_ | refine wy ?_ | refine wn ?_ | refine wt ?_ | refine wf' ?_ | refine cy ?_ | refine cn ?_)
  have hdn := ok.n
  have hlen := spans_len sizes 0
  refine part_New_L0_ind (fun k l' H' => ∃ (y : Nat) (vs : Value), y ≤ sizes.length ∧ k = sizes.length - y ∧ l' = [ptr pd 0, .pointer none, int 0, ptr pm 0, int ((sizes.take y).sum : Nat), sl q 0 sizes.length c, int sizes.length, int y] ∧ St H' (((Γ ++ DW pd pc vd d) ++ [(pm, ⟨[ptr pd 0, vs, int 0, nilSl], true⟩)]) ++ outB vs (spC ((spansFrom 0 sizes).take y))) ∧ Own 2 vs y (spC ((spansFrom 0 sizes).take y)) ∧ (0 < y → ∃ ps, vs = sl ps 0 y 4)) _ _ ?_ sizes.length _ _ ⟨0, nilSl, by omega, rfl, rfl, hO, .inl ⟨rfl, rfl, rfl⟩, fun h => absurd h (by omega)⟩
  clear hO
  rintro k l' H ⟨y, vs, hy, rfl, rfl, hO, hvs, hps⟩
  unfold part_New_L0
  try simp only [nth_zero, nth_succ]
  have hst := sum_take_le sizes y
  repeat (first | refine oi ?_ | refine ow ?_ | refine wy ?_ | refine wn ?_ | refine wt ?_ | refine wf' ?_ | refine cy ?_ | refine cn ?_)
  refine wIf_dec (fun h => ?_) (fun h => ?_)
  · have hyl : y < sizes.length := by omega
    have hm := h1 _ (List.getElem_mem hyl)
    have hst1 := sum_take_le sizes (y + 1)
    have hss := sum_take_succ sizes y hyl
    refine opP_i (idxSl_ok (by omega) (by omega)) ?_
    refine load_at hO jz (at_l (at_l (at_l hz))) (v := int sizes[y]) (by
      show (sizes.map fun (n : Nat) => int n)[0 + ((y : Nat) : Int).toNat * 1]? = _
      rw [Int.toNat_natCast, show 0 + y * 1 = y by omega]; simp [hyl]) ?_
    refine join_with (fun l' H' => l' = [ptr pd 0, .pointer none, int 0, ptr pm 0, int ((sizes.take y).sum : Nat), int sizes[y], sl q 0 sizes.length c, int sizes.length, int y, .bool false] ∧ H' = H) ?_ ?_
    · refine opP_i bin_lss ?_
      rw [decide_eq_false (show ¬ ((sizes[y] : Nat) : Int) < 1 by omega)]
      refine wIf_f rfl ?_
      refine dSize_spec hO (at_l (at_l (at_r (k := 0) rfl))) ?_
      repeat (first | refine oi ?_ | refine ow ?_ | refine wy ?_ | refine wn ?_ | refine wt ?_ | refine wf' ?_ | refine cy ?_ | refine cn ?_)
      rw [decide_eq_false (show ¬ ((d.cells.length : Int) - ((sizes.take y).sum : Nat)) < ((sizes[y] : Nat) : Int) by omega)]
      exact ⟨rfl, rfl⟩
    rintro l' H' ⟨rfl, rfl⟩
    try simp only [nth_zero, nth_succ]
    refine wIf_f rfl ?_
    repeat (first | refine oi ?_ | refine ow ?_ | refine wy ?_ | refine wn ?_ | refine wt ?_ | refine wf' ?_ | refine cy ?_ | refine cn ?_)
    refine load_at hO ((Γ ++ DW pd pc vd d).length + 0) (at_l (at_r rfl)) rfl ?_
    refine opP_i (bSpan _ _) ?_
    refine newSl_at hO (bsSpan _ _ _) ?_
    clear hO
    intro q2 H hO
    refine append_elem2 hO hvs rfl (by omega) rfl (by omega) (by omega) ?_
    clear hO
    intro ps H hO hvs'
    have e5 : spC ((spansFrom 0 sizes).take y) ++ [int ((sizes.take y).sum : Nat), int sizes[y]] = spC ((spansFrom 0 sizes).take (y + 1)) := by
      rw [spans_take sizes 0 y hyl]
      simp [spC]
    rw [e5] at hO hvs'
    repeat (first | refine oi ?_ | refine ow ?_ | refine wy ?_ | refine wn ?_ | refine wt ?_ | refine wf' ?_ | refine cy ?_ | refine cn ?_)
    refine store1_at hO ((Γ ++ DW pd pc vd d).length + 0) (at_l (at_r rfl)) rfl (show 1 < 4 by omega) rfl ?_
    clear hO
    intro H hO
    rw [List.set_append_left _ _ (by simp), Go.Ab.set_r] at hO
    repeat (first | refine oi ?_ | refine ow ?_ | refine wy ?_ | refine wn ?_ | refine wt ?_ | refine wf' ?_ | refine cy ?_ | refine cn ?_)
    refine ⟨_, by omega, y + 1, _, by omega, rfl, ?_, hO, hvs', fun _ => ⟨ps, rfl⟩⟩
    rw [hss]
    simp
  · have ey : y = sizes.length := by omega
    subst ey
    rw [List.take_of_length_le (by rw [hlen]; exact Nat.le_refl _)] at hO hvs
    obtain ⟨ps, rfl⟩ := hps h0
    repeat (first | refine oi ?_ | refine ow ?_ | refine wy ?_ | refine wn ?_ | refine wt ?_ | refine wf' ?_ | refine cy ?_ | refine cn ?_)
    refine hk H pm ps ?_ ⟨hv, .inl ⟨rfl, rfl, rfl⟩⟩
    have h3 : St H (((Γ ++ DW pd pc vd d) ++ [(pm, ⟨[ptr pd 0, sl ps 0 sizes.length 4, int 0, nilSl], true⟩)]) ++ [(ps, ⟨spC (spansFrom 0 sizes), true⟩)]) := hO
    rw [List.append_assoc] at h3
    have h4 := h3.rot
    rw [List.append_assoc] at h4
    have e7 : mv ⟨pm, pd, pc, ps, vd, nilSl⟩ ⟨d, spansFrom 0 sizes, 0, []⟩ = [ptr pd 0, sl ps 0 sizes.length 4, int 0, nilSl] := by unfold mv; rw [hlen]
    show St H (Γ ++ ([(pm, ⟨mv ⟨pm, pd, pc, ps, vd, nilSl⟩ ⟨d, spansFrom 0 sizes, 0, []⟩, true⟩), (ps, ⟨spC (spansFrom 0 sizes), true⟩)] ++ ([] ++ DW pd pc vd d)))
    rw [e7, List.nil_append]
    exact h4
end J
