/- texts of the proof, one behind the other -/
import Derived.Test.YtgcklljdiidgmaaJC
set_option linter.unusedVariables false
set_option linter.unusedSimpArgs false
set_option maxRecDepth 100000
namespace J
open Go Go.Ab
variable {H : Heap} {Γ : List (Nat × Blk)} {K : Value → Heap → Prop} {v w x : Value} {xs ys : List Int} {j p : Nat} {e : Int}
/-! a map -/
structure Op where
  kind : Int
  part : Int
  pos : Int
  who : Int
structure Mp where
  d : Dv
  spans : List (Nat × Nat)
  who : Int
  ops : List Op
def opC (o : Op) : List Value := [int o.kind, int o.part, int o.pos, int o.who]
def opsC (l : List Op) : List Value := l.flatMap opC
def spC (l : List (Nat × Nat)) : List Value := l.flatMap fun x => [int x.1, int x.2]
/-- a map's pointers: its own, the device's, the cells', the spans', what waits, what was done -/
structure Mloc where
  pm : Nat
  pd : Nat
  pc : Nat
  ps : Nat
  vd : Value
  vo : Value
def mv (L : Mloc) (m : Mp) : List Value := [ptr L.pd 0, sl L.ps 0 m.spans.length 4, int m.who, L.vo]
abbrev MA (L : Mloc) (m : Mp) : List (Nat × Blk) := [(L.pm, ⟨mv L m, true⟩), (L.ps, ⟨spC m.spans, true⟩)]
abbrev MW (L : Mloc) (m : Mp) : List (Nat × Blk) := MA L m ++ (outB L.vo (opsC m.ops) ++ DW L.pd L.pc L.vd m.d)
/-- the two slices of the map's own -/
structure Mown (L : Mloc) (m : Mp) : Prop where
  d : OwnD L.vd m.d
  o : Own 4 L.vo m.ops.length (opsC m.ops)
/-- the same place, but for the two slices -/
structure Mloc.Eq (L L' : Mloc) : Prop where
  m : L'.pm = L.pm
  d : L'.pd = L.pd
  c : L'.pc = L.pc
  s : L'.ps = L.ps
structure Mp.Ok (m : Mp) : Prop where
  d : m.d.Ok
  s : ∀ x ∈ m.spans, x.1 + x.2 ≤ m.d.cells.length
  n : m.spans.length ≤ 16
def Mp.Sm (m : Mp) (N : Nat) : Prop := m.d.done.length ≤ N ∧ m.ops.length ≤ N
variable {L : Mloc} {m : Mp} {part pos : Int}
theorem MW.toD (h : St H (Γ ++ MW L m)) : St H (((Γ ++ MA L m) ++ outB L.vo (opsC m.ops)) ++ DW L.pd L.pc L.vd m.d) := by
  rw [List.append_assoc, List.append_assoc]; exact h
theorem MW.ofD (h : St H (((Γ ++ MA L m) ++ outB L.vo (opsC m.ops)) ++ DW L.pd L.pc L.vd m.d)) : St H (Γ ++ MW L m) := by
  rw [List.append_assoc, List.append_assoc] at h; exact h
def Mp.has (m : Mp) (part : Int) : Prop := 0 ≤ part ∧ part < m.spans.length
instance : Decidable (m.has part) := by unfold Mp.has; infer_instance
def Mp.span (m : Mp) (part : Int) : Nat × Nat := m.spans.getD part.toNat (0, 0)
def Mp.size (m : Mp) (part : Int) : Nat := if m.has part then (m.span part).2 else 0
theorem Mp.span_mem (h : m.has part) : m.span part ∈ m.spans := by
  unfold Mp.span
  have : part.toNat < m.spans.length := by have := h.1; have := h.2; omega
  rw [List.getD_eq_getElem?_getD, List.getElem?_eq_getElem this]
  exact List.getElem_mem this
theorem span_at (h : m.has part) : (spC m.spans)[part.toNat * 2 + 0]? = some (int (m.span part).1) ∧ (spC m.spans)[part.toNat * 2 + 1]? = some (int (m.span part).2) := by
  have hi : part.toNat < m.spans.length := by have := h.1; have := h.2; omega
  have e : m.span part = m.spans[part.toNat] := by unfold Mp.span; rw [List.getD_eq_getElem?_getD, List.getElem?_eq_getElem hi]; rfl
  unfold spC
  rw [flat_get (n := 2) (fun _ _ => rfl) hi (by omega), flat_get (n := 2) (fun _ _ => rfl) hi (by omega), e]
  exact ⟨rfl, rfl⟩
theorem mDevice_spec (hO : St H (Γ ++ MW L m)) (hk : K (ptr L.pd 0) H) : wCall P n_part_Map_Device [ptr L.pm 0] H K := by
  apply part_Map_Device_ok; unfold part_Map_Device
  repeat (first | refine opP_i (by first | exact qa | exact qs | exact nilCheck_ptr | exact offPtr_ptr | exact bin_eql | exact bin_neq | exact bin_lss | exact bin_gtr | exact bin_leq | exact bin_geq | exact un_not | exact pick_true | exact pick_false | exact qy | exact qn | exact qi | exact qj) ?_ | refine opW_i (by first | exact lenSl_sl | exact min_w | exact max_w) ?_ | refine wy ?_ | refine wn ?_ | refine wIf_t rfl ?_ | refine wIf_f rfl ?_ | refine cond_yes rfl ?_ | refine cond_no rfl ?_)
  refine load_at hO (Γ.length + 0) (at_r rfl) rfl ?_
  exact hk
theorem mHas_spec (hO : St H (Γ ++ MW L m)) (hk : K (.bool (decide (m.has part))) H) : wCall P n_part_Map_has [ptr L.pm 0, int part] H K := by
  apply part_Map_has_ok; unfold part_Map_has
  repeat (first | refine opP_i (by first | exact qa | exact qs | exact nilCheck_ptr | exact offPtr_ptr | exact bin_eql | exact bin_neq | exact bin_lss | exact bin_gtr | exact bin_leq | exact bin_geq | exact un_not | exact pick_true | exact pick_false | exact qy | exact qn | exact qi | exact qj) ?_ | refine opW_i (by first | exact lenSl_sl | exact min_w | exact max_w) ?_ | refine wy ?_ | refine wn ?_ | refine wIf_t rfl ?_ | refine wIf_f rfl ?_ | refine cond_yes rfl ?_ | refine cond_no rfl ?_)
  refine wIf_dec (fun h => ?_) (fun h => ?_)
  · repeat (first | refine opP_i (by first | exact qa | exact qs | exact nilCheck_ptr | exact offPtr_ptr | exact bin_eql | exact bin_neq | exact bin_lss | exact bin_gtr | exact bin_leq | exact bin_geq | exact un_not | exact pick_true | exact pick_false | exact qy | exact qn | exact qi | exact qj) ?_ | refine opW_i (by first | exact lenSl_sl | exact min_w | exact max_w) ?_ | refine wy ?_ | refine wn ?_ | refine wIf_t rfl ?_ | refine wIf_f rfl ?_ | refine cond_yes rfl ?_ | refine cond_no rfl ?_)
    refine load_at hO (Γ.length + 0) (at_r rfl) rfl ?_
    repeat (first | refine opP_i (by first | exact qa | exact qs | exact nilCheck_ptr | exact offPtr_ptr | exact bin_eql | exact bin_neq | exact bin_lss | exact bin_gtr | exact bin_leq | exact bin_geq | exact un_not | exact pick_true | exact pick_false | exact qy | exact qn | exact qi | exact qj) ?_ | refine opW_i (by first | exact lenSl_sl | exact min_w | exact max_w) ?_ | refine wy ?_ | refine wn ?_ | refine wIf_t rfl ?_ | refine wIf_f rfl ?_ | refine cond_yes rfl ?_ | refine cond_no rfl ?_)
    rw [decide_eq_decide.2 (show part < (m.spans.length : Int) ↔ m.has part from ⟨fun h2 => ⟨h, h2⟩, fun h2 => h2.2⟩)]
    exact hk
  · repeat (first | refine opP_i (by first | exact qa | exact qs | exact nilCheck_ptr | exact offPtr_ptr | exact bin_eql | exact bin_neq | exact bin_lss | exact bin_gtr | exact bin_leq | exact bin_geq | exact un_not | exact pick_true | exact pick_false | exact qy | exact qn | exact qi | exact qj) ?_ | refine opW_i (by first | exact lenSl_sl | exact min_w | exact max_w) ?_ | refine wy ?_ | refine wn ?_ | refine wIf_t rfl ?_ | refine wIf_f rfl ?_ | refine cond_yes rfl ?_ | refine cond_no rfl ?_)
    rw [decide_eq_false (show ¬ m.has part from fun h2 => h h2.1)] at hk
    exact hk
theorem mSize_spec (hO : St H (Γ ++ MW L m)) (hk : K (int (m.size part)) H) : wCall P n_part_Map_Size [ptr L.pm 0, int part] H K := by
  apply part_Map_Size_ok; unfold part_Map_Size
  refine mHas_spec hO ?_
  unfold Mp.size at hk
  refine opP_i un_not ?_
  by_cases h : m.has part
  · rw [if_pos h] at hk
    rw [decide_eq_true h]
    refine wIf_f rfl ?_
    repeat (first | refine opP_i (by first | exact qa | exact qs | exact nilCheck_ptr | exact offPtr_ptr | exact bin_eql | exact bin_neq | exact bin_lss | exact bin_gtr | exact bin_leq | exact bin_geq | exact un_not | exact pick_true | exact pick_false | exact qy | exact qn | exact qi | exact qj) ?_ | refine opW_i (by first | exact lenSl_sl | exact min_w | exact max_w) ?_ | refine wy ?_ | refine wn ?_ | refine wIf_t rfl ?_ | refine wIf_f rfl ?_ | refine cond_yes rfl ?_ | refine cond_no rfl ?_)
    refine load_at hO (Γ.length + 0) (at_r rfl) rfl ?_
    refine opP_i (idxSl_ok h.1 h.2) ?_
    repeat (first | refine opP_i (by first | exact qa | exact qs | exact nilCheck_ptr | exact offPtr_ptr | exact bin_eql | exact bin_neq | exact bin_lss | exact bin_gtr | exact bin_leq | exact bin_geq | exact un_not | exact pick_true | exact pick_false | exact qy | exact qn | exact qi | exact qj) ?_ | refine opW_i (by first | exact lenSl_sl | exact min_w | exact max_w) ?_ | refine wy ?_ | refine wn ?_ | refine wIf_t rfl ?_ | refine wIf_f rfl ?_ | refine cond_yes rfl ?_ | refine cond_no rfl ?_)
    rw [Nat.zero_add]
    refine load_at hO (Γ.length + 1) (at_r rfl) (span_at h).2 ?_
    exact hk
  · rw [if_neg h] at hk
    rw [decide_eq_false h]
    exact wIf_t rfl hk
def Mp.place (m : Mp) (part pos : Int) : Int × Int := if ¬ m.has part then (0, 71) else if pos < 0 ∨ (m.span part).2 ≤ pos then (0, 61) else ((m.span part).1 + pos, 0)
theorem mPlace_spec (ok : m.Ok) (hO : St H (Γ ++ MW L m)) (hk : K (.tuple [int (m.place part pos).1, int (m.place part pos).2].toArray) H) : wCall P n_part_Map_place [ptr L.pm 0, int part, int pos] H K := by
  apply part_Map_place_ok; unfold part_Map_place
  refine mHas_spec hO ?_
  unfold Mp.place at hk
  refine opP_i un_not ?_
  by_cases h : m.has part
  · rw [if_neg (fun h' => h' h)] at hk
    rw [decide_eq_true h]
    refine wIf_f rfl ?_
    refine join_with (fun l' H' => l' = [ptr L.pm 0, int part, int pos, .bool (decide (pos < 0 ∨ (m.span part).2 ≤ pos))] ∧ H' = H) ?_ ?_
    · repeat (first | refine opP_i (by first | exact qa | exact qs | exact nilCheck_ptr | exact offPtr_ptr | exact bin_eql | exact bin_neq | exact bin_lss | exact bin_gtr | exact bin_leq | exact bin_geq | exact un_not | exact pick_true | exact pick_false | exact qy | exact qn | exact qi | exact qj) ?_ | refine opW_i (by first | exact lenSl_sl | exact min_w | exact max_w) ?_ | refine wy ?_ | refine wn ?_ | refine wIf_t rfl ?_ | refine wIf_f rfl ?_ | refine cond_yes rfl ?_ | refine cond_no rfl ?_)
      refine wIf_dec (fun h1 => ?_) (fun h1 => ?_)
      · repeat (first | refine opP_i (by first | exact qa | exact qs | exact nilCheck_ptr | exact offPtr_ptr | exact bin_eql | exact bin_neq | exact bin_lss | exact bin_gtr | exact bin_leq | exact bin_geq | exact un_not | exact pick_true | exact pick_false | exact qy | exact qn | exact qi | exact qj) ?_ | refine opW_i (by first | exact lenSl_sl | exact min_w | exact max_w) ?_ | refine wy ?_ | refine wn ?_ | refine wIf_t rfl ?_ | refine wIf_f rfl ?_ | refine cond_yes rfl ?_ | refine cond_no rfl ?_)
        exact ⟨by rw [decide_eq_true (.inl h1)], rfl⟩
      · repeat (first | refine opP_i (by first | exact qa | exact qs | exact nilCheck_ptr | exact offPtr_ptr | exact bin_eql | exact bin_neq | exact bin_lss | exact bin_gtr | exact bin_leq | exact bin_geq | exact un_not | exact pick_true | exact pick_false | exact qy | exact qn | exact qi | exact qj) ?_ | refine opW_i (by first | exact lenSl_sl | exact min_w | exact max_w) ?_ | refine wy ?_ | refine wn ?_ | refine wIf_t rfl ?_ | refine wIf_f rfl ?_ | refine cond_yes rfl ?_ | refine cond_no rfl ?_)
        refine load_at hO (Γ.length + 0) (at_r rfl) rfl ?_
        refine opP_i (idxSl_ok h.1 h.2) ?_
        repeat (first | refine opP_i (by first | exact qa | exact qs | exact nilCheck_ptr | exact offPtr_ptr | exact bin_eql | exact bin_neq | exact bin_lss | exact bin_gtr | exact bin_leq | exact bin_geq | exact un_not | exact pick_true | exact pick_false | exact qy | exact qn | exact qi | exact qj) ?_ | refine opW_i (by first | exact lenSl_sl | exact min_w | exact max_w) ?_ | refine wy ?_ | refine wn ?_ | refine wIf_t rfl ?_ | refine wIf_f rfl ?_ | refine cond_yes rfl ?_ | refine cond_no rfl ?_)
        rw [Nat.zero_add]
        refine load_at hO (Γ.length + 1) (at_r rfl) (span_at h).2 ?_
        repeat (first | refine opP_i (by first | exact qa | exact qs | exact nilCheck_ptr | exact offPtr_ptr | exact bin_eql | exact bin_neq | exact bin_lss | exact bin_gtr | exact bin_leq | exact bin_geq | exact un_not | exact pick_true | exact pick_false | exact qy | exact qn | exact qi | exact qj) ?_ | refine opW_i (by first | exact lenSl_sl | exact min_w | exact max_w) ?_ | refine wy ?_ | refine wn ?_ | refine wIf_t rfl ?_ | refine wIf_f rfl ?_ | refine cond_yes rfl ?_ | refine cond_no rfl ?_)
        exact ⟨by rw [decide_eq_decide.2 (show ((m.span part).2 : Int) ≤ pos ↔ (pos < 0 ∨ (m.span part).2 ≤ pos) by omega)], rfl⟩
    rintro l' H' ⟨rfl, rfl⟩
    try simp only [nth_zero, nth_succ]
    refine wIf_dec (fun h1 => ?_) (fun h1 => ?_)
    · rw [if_pos h1] at hk
      exact hk
    · rw [if_neg h1] at hk
      repeat (first | refine opP_i (by first | exact qa | exact qs | exact nilCheck_ptr | exact offPtr_ptr | exact bin_eql | exact bin_neq | exact bin_lss | exact bin_gtr | exact bin_leq | exact bin_geq | exact un_not | exact pick_true | exact pick_false | exact qy | exact qn | exact qi | exact qj) ?_ | refine opW_i (by first | exact lenSl_sl | exact min_w | exact max_w) ?_ | refine wy ?_ | refine wn ?_ | refine wIf_t rfl ?_ | refine wIf_f rfl ?_ | refine cond_yes rfl ?_ | refine cond_no rfl ?_)
      refine load_at hO (Γ.length + 0) (at_r rfl) rfl ?_
      refine opP_i (idxSl_ok h.1 h.2) ?_
      repeat (first | refine opP_i (by first | exact qa | exact qs | exact nilCheck_ptr | exact offPtr_ptr | exact bin_eql | exact bin_neq | exact bin_lss | exact bin_gtr | exact bin_leq | exact bin_geq | exact un_not | exact pick_true | exact pick_false | exact qy | exact qn | exact qi | exact qj) ?_ | refine opW_i (by first | exact lenSl_sl | exact min_w | exact max_w) ?_ | refine wy ?_ | refine wn ?_ | refine wIf_t rfl ?_ | refine wIf_f rfl ?_ | refine cond_yes rfl ?_ | refine cond_no rfl ?_)
      rw [Nat.zero_add]
      refine load_at hO (Γ.length + 1) (at_r rfl) (span_at h).1 ?_
      have := ok.s _ (Mp.span_mem h)
      have := ok.d.n
      repeat (first | refine opP_i (by first | exact qa | exact qs | exact nilCheck_ptr | exact offPtr_ptr | exact bin_eql | exact bin_neq | exact bin_lss | exact bin_gtr | exact bin_leq | exact bin_geq | exact un_not | exact pick_true | exact pick_false | exact qy | exact qn | exact qi | exact qj) ?_ | refine opW_i (by first | exact lenSl_sl | exact min_w | exact max_w) ?_ | refine wy ?_ | refine wn ?_ | refine wIf_t rfl ?_ | refine wIf_f rfl ?_ | refine cond_yes rfl ?_ | refine cond_no rfl ?_)
      exact hk
  · rw [if_pos h] at hk
    rw [decide_eq_false h]
    exact wIf_t rfl hk
def Mp.read (m : Mp) (part pos : Int) : List Int × Int := if (m.place part pos).2 ≠ 0 then (zeros, (m.place part pos).2) else m.d.read (m.place part pos).1
theorem Dv.read_len {d : Dv} (ok : d.Ok) {a : Int} : (d.read a).1.length = 64 := by
  unfold Dv.read
  by_cases h : d.has a
  · rw [if_pos h]; exact (Dv.cellOk ok.c h).s
  · rw [if_neg h]; rfl
theorem Mp.read_len (ok : m.Ok) : (m.read part pos).1.length = 64 := by
  unfold Mp.read
  split
  · rfl
  · exact Dv.read_len ok.d
theorem mRead_spec (ok : m.Ok) (hO : St H (Γ ++ MW L m)) (hk : ∀ H', St H' (Γ ++ MW L m) → K (.tuple [sec (m.read part pos).1, int (m.read part pos).2].toArray) H') : wCall P n_part_Map_Read [ptr L.pm 0, int part, int pos] H K := by
  apply part_Map_Read_ok; unfold part_Map_Read
  rw [zcS]
  refine new_at hO ?_
  clear hO
  intro p6 H hO
  replace hO := hO.rot
  have i6 : (Γ ++ [(p6, (⟨by8 zeros, true⟩ : Blk))])[Γ.length + 0]? = some (p6, ⟨by8 zeros, true⟩) := at_r rfl
  refine mPlace_spec ok hO ?_
  refine opP_i ext0 ?_
  refine opP_i ext1 ?_
  refine opP_i bin_neq ?_
  unfold Mp.read at hk
  refine wIf_dec (fun h => ?_) (fun h => ?_)
  · rw [if_pos h] at hk
    refine opP_i bS ?_
    refine storeAll_at hO (Γ.length + 0) (at_l i6) (by rw [by8_len]; rfl) (by rw [by8_len]; rfl) (by8_one _) ?_
    clear hO
    intro H hO
    rw [List.set_append_left _ _ (by simp), Go.Ab.set_r] at hO
    refine loadAll_at hO (Γ.length + 0) (at_l (at_r rfl)) (by rw [by8_len]; rfl) (by omega) ?_
    exact hk _ (St.mid hO)
  · rw [if_neg h] at hk
    repeat (first | refine opP_i (by first | exact qa | exact qs | exact nilCheck_ptr | exact offPtr_ptr | exact bin_eql | exact bin_neq | exact bin_lss | exact bin_gtr | exact bin_leq | exact bin_geq | exact un_not | exact pick_true | exact pick_false | exact qy | exact qn | exact qi | exact qj) ?_ | refine opW_i (by first | exact lenSl_sl | exact min_w | exact max_w) ?_ | refine wy ?_ | refine wn ?_ | refine wIf_t rfl ?_ | refine wIf_f rfl ?_ | refine cond_yes rfl ?_ | refine cond_no rfl ?_)
    refine load_at hO ((Γ ++ [(p6, (⟨by8 zeros, true⟩ : Blk))]).length + 0) (at_r rfl) rfl ?_
    refine dRead_spec ok.d.c (MW.toD hO) ?_
    clear hO
    intro H hO
    replace hO := MW.ofD hO
    refine opP_i ext0 ?_
    refine opP_i ext1 ?_
    have hl := Dv.read_len ok.d (a := (m.place part pos).1)
    refine storeAll_at hO (Γ.length + 0) (at_l i6) (by rw [by8_len]; rfl) (by rw [by8_len]; exact hl) (by8_one _) ?_
    clear hO
    intro H hO
    rw [List.set_append_left _ _ (by simp), Go.Ab.set_r] at hO
    refine loadAll_at hO (Γ.length + 0) (at_l (at_r rfl)) (by rw [by8_len]; exact hl) (by omega) ?_
    exact hk _ (St.mid hO)
/-- what was done is noted -/
def Mp.note (m : Mp) (o : Op) (e : Int) : Mp := if e = 0 then { m with ops := m.ops ++ [{ o with who := m.who }] } else m
theorem bOps (o : Op) (H : Heap) : (buildSliceC P 34 1).f [(0, agg (opC o))] H = some (sl H.next 0 1 9, H.push (opC o)) := by kernel_rfl
theorem bOp (a b c : Int) : (buildC P 39).f [(0, int a), (1, int b), (2, int c)] = some (agg (opC ⟨a, b, c, 0⟩)) := by kernel_rfl
theorem opC_one (o : Op) : (opC o).all oneCell = true := rfl
theorem opsC_snoc (l : List Op) (o : Op) : opsC l ++ opC o = opsC (l ++ [o]) := by simp [opsC]
theorem note_spec {o : Op} (hs : m.ops.length ≤ 1000000000) (hO : St H (Γ ++ MW L m)) (hv : Mown L m)
    (hk : ∀ H' L', L.Eq L' → St H' (Γ ++ MW L' (m.note o e)) → Mown L' (m.note o e) → K (int e) H') : wCall P n_part_Map_note [ptr L.pm 0, agg (opC o), int e] H K := by
  apply part_Map_note_ok; unfold part_Map_note
  refine new_at hO ?_
  clear hO
  intro p4 H hO
  replace hO := hO.rot
  have i4 : (Γ ++ [(p4, (⟨opC o, true⟩ : Blk))])[Γ.length + 0]? = some (p4, ⟨opC o, true⟩) := at_r rfl
  replace hO : St H ((Γ ++ [(p4, ⟨opC o, true⟩)]) ++ MW L m) := hO
  refine opP_i bin_eql ?_
  unfold Mp.note at hk
  refine wIf_dec (fun h => ?_) (fun h => ?_)
  · rw [if_pos h] at hk
    repeat (first | refine opP_i (by first | exact qa | exact qs | exact nilCheck_ptr | exact offPtr_ptr | exact bin_eql | exact bin_neq | exact bin_lss | exact bin_gtr | exact bin_leq | exact bin_geq | exact un_not | exact pick_true | exact pick_false | exact qy | exact qn | exact qi | exact qj) ?_ | refine opW_i (by first | exact lenSl_sl | exact min_w | exact max_w) ?_ | refine wy ?_ | refine wn ?_ | refine wIf_t rfl ?_ | refine wIf_f rfl ?_ | refine cond_yes rfl ?_ | refine cond_no rfl ?_)
    refine load_at hO ((Γ ++ [(p4, (⟨opC o, true⟩ : Blk))]).length + 0) (at_r rfl) rfl ?_
    repeat (first | refine opP_i (by first | exact qa | exact qs | exact nilCheck_ptr | exact offPtr_ptr | exact bin_eql | exact bin_neq | exact bin_lss | exact bin_gtr | exact bin_leq | exact bin_geq | exact un_not | exact pick_true | exact pick_false | exact qy | exact qn | exact qi | exact qj) ?_ | refine opW_i (by first | exact lenSl_sl | exact min_w | exact max_w) ?_ | refine wy ?_ | refine wn ?_ | refine wIf_t rfl ?_ | refine wIf_f rfl ?_ | refine cond_yes rfl ?_ | refine cond_no rfl ?_)
    refine store1_at hO (Γ.length + 0) (at_l i4) rfl (show 3 < 4 by omega) (show _ = opC { o with who := m.who } from rfl) ?_
    clear hO
    intro H hO
    rw [List.set_append_left _ _ (by simp), Go.Ab.set_r] at hO
    replace hO : St H ((Γ ++ [(p4, ⟨opC { o with who := m.who }, true⟩)]) ++ MW L m) := hO
    clear i4
    have i4 : (Γ ++ [(p4, (⟨opC { o with who := m.who }, true⟩ : Blk))])[Γ.length + 0]? = some (p4, ⟨opC { o with who := m.who }, true⟩) := at_r rfl
    have fin : ∀ {H : Heap} {Δ : List (Nat × Blk)}, St H ((Γ ++ [(p4, ⟨opC { o with who := m.who }, true⟩)]) ++ Δ) → St H (Γ ++ Δ) := fun h => St.mid h
    generalize Γ ++ [(p4, (⟨opC { o with who := m.who }, true⟩ : Blk))] = Γ' at hO i4 fin
    repeat (first | refine opP_i (by first | exact qa | exact qs | exact nilCheck_ptr | exact offPtr_ptr | exact bin_eql | exact bin_neq | exact bin_lss | exact bin_gtr | exact bin_leq | exact bin_geq | exact un_not | exact pick_true | exact pick_false | exact qy | exact qn | exact qi | exact qj) ?_ | refine opW_i (by first | exact lenSl_sl | exact min_w | exact max_w) ?_ | refine wy ?_ | refine wn ?_ | refine wIf_t rfl ?_ | refine wIf_f rfl ?_ | refine cond_yes rfl ?_ | refine cond_no rfl ?_)
    refine load_at hO (Γ'.length + 0) (at_r rfl) rfl ?_
    refine loadAll_at hO (Γ.length + 0) (at_l i4) rfl (by omega) ?_
    have hO' : St H (((Γ' ++ MA L m) ++ DW L.pd L.pc L.vd m.d) ++ outB L.vo (opsC m.ops)) := (MW.toD hO).rot
    refine newSl_at hO' (bOps _ _) ?_
    clear hO hO'
    intro q H hO
    refine append_elem hO hv.o rfl (by omega) rfl (by omega) (by omega) ?_
    clear hO
    intro vo' H hO hvo
    repeat (first | refine opP_i (by first | exact qa | exact qs | exact nilCheck_ptr | exact offPtr_ptr | exact bin_eql | exact bin_neq | exact bin_lss | exact bin_gtr | exact bin_leq | exact bin_geq | exact un_not | exact pick_true | exact pick_false | exact qy | exact qn | exact qi | exact qj) ?_ | refine opW_i (by first | exact lenSl_sl | exact min_w | exact max_w) ?_ | refine wy ?_ | refine wn ?_ | refine wIf_t rfl ?_ | refine wIf_f rfl ?_ | refine cond_yes rfl ?_ | refine cond_no rfl ?_)
    obtain ⟨a1, n1, c1, e1⟩ : ∃ a1 n1 c1, vo' = .slice a1 n1 c1 := by rcases hvo with ⟨_, h, _⟩ | ⟨p, rfl | rfl, _⟩; omega; exact ⟨_, _, _, rfl⟩; exact ⟨_, _, _, rfl⟩
    refine store1_at hO (Γ'.length + 0) (at_l (at_l (at_r rfl))) (by rw [e1]; rfl) (show 3 < 4 by omega) rfl ?_
    clear hO
    intro H hO
    rw [List.set_append_left _ _ (by simp), List.set_append_left _ _ (by simp), Go.Ab.set_r] at hO
    rw [opsC_snoc] at hO hvo
    have h3 : St H (((Γ' ++ MA ⟨L.pm, L.pd, L.pc, L.ps, L.vd, vo'⟩ m) ++ DW L.pd L.pc L.vd m.d) ++ outB vo' (opsC (m.ops ++ [{ o with who := m.who }]))) := hO
    refine hk H ⟨L.pm, L.pd, L.pc, L.ps, L.vd, vo'⟩ ⟨rfl, rfl, rfl, rfl⟩ (fin (MW.ofD (m := { m with ops := m.ops ++ [{ o with who := m.who }] }) h3.rot)) ⟨hv.d, ?_⟩
    show Own 4 vo' (m.ops ++ [_]).length _
    rw [List.length_append]
    exact hvo
  · rw [if_neg h] at hk
    exact hk _ L ⟨rfl, rfl, rfl, rfl⟩ (St.mid hO) hv
end J
set_option linter.unusedVariables false
set_option linter.unusedSimpArgs false
set_option maxRecDepth 100000
namespace J
open Go Go.Ab
variable {H : Heap} {Γ : List (Nat × Blk)} {K : Value → Heap → Prop} {v w x : Value} {xs ys : List Int} {j p : Nat} {e : Int}
variable {L : Mloc} {m : Mp} {part pos : Int} {s : List Int}
def Mp.erase (m : Mp) (part pos : Int) : Mp × Int := if (m.place part pos).2 ≠ 0 then (m, (m.place part pos).2) else (({ m with d := (m.d.erase (m.place part pos).1).1 } : Mp).note ⟨1, part, pos, 0⟩ (m.d.erase (m.place part pos).1).2, (m.d.erase (m.place part pos).1).2)
def Mp.program (m : Mp) (part pos : Int) (s : List Int) : Mp × Int := if (m.place part pos).2 ≠ 0 then (m, (m.place part pos).2) else (({ m with d := (m.d.program (m.place part pos).1 s).1 } : Mp).note ⟨2, part, pos, 0⟩ (m.d.program (m.place part pos).1 s).2, (m.d.program (m.place part pos).1 s).2)
def Mp.sync (m : Mp) : Mp × Int := ({ m with d := m.d.sync.1 }, m.d.sync.2)
theorem Dv.step_len {d : Dv} : d.step.cells = d.cells := rfl
theorem Dv.erase_len {d : Dv} {a : Int} : (d.erase a).1.cells.length = d.cells.length := by
  unfold Dv.erase
  split
  · rfl
  split
  · rfl
  split
  · rfl
  split
  · rfl
  show ((d.step.cells.set _ _).set _ _).length = _
  rw [List.length_set, List.length_set]; rfl
theorem Dv.program_len {d : Dv} {a : Int} : (d.program a s).1.cells.length = d.cells.length := by
  unfold Dv.program
  split
  · rfl
  split
  · rfl
  split
  · rfl
  split
  · rfl
  show (d.step.cells.set _ _).length = _
  rw [List.length_set]; rfl
theorem Dv.sync_len {d : Dv} : d.sync.1.cells.length = d.cells.length := by
  unfold Dv.sync
  split
  · rfl
  split
  · rfl
  exact keepAll_len _ _
theorem Dv.erase_done {d : Dv} {a : Int} : (d.erase a).1.done.length ≤ d.done.length + 1 := by
  unfold Dv.erase
  split
  · exact Nat.le_succ _
  split
  · exact Nat.le_succ _
  split
  · exact Nat.le_succ _
  split
  · exact Nat.le_succ _
  show (d.done ++ [_]).length ≤ _
  simp
theorem Dv.program_done {d : Dv} {a : Int} : (d.program a s).1.done.length ≤ d.done.length + 1 := by
  unfold Dv.program
  split
  · exact Nat.le_succ _
  split
  · exact Nat.le_succ _
  split
  · exact Nat.le_succ _
  split
  · exact Nat.le_succ _
  show (d.done ++ [_]).length ≤ _
  simp
theorem Dv.sync_done {d : Dv} : d.sync.1.done.length ≤ d.done.length := by
  unfold Dv.sync
  split
  · exact Nat.le_refl _
  split
  · exact Nat.le_refl _
  exact Nat.zero_le _
theorem Mp.note_d {o : Op} : (m.note o e).d = m.d := by unfold Mp.note; split <;> rfl
theorem Mp.note_s {o : Op} : (m.note o e).spans = m.spans := by unfold Mp.note; split <;> rfl
theorem Mp.note_ops {o : Op} : (m.note o e).ops.length ≤ m.ops.length + 1 := by
  unfold Mp.note; split
  · simp
  · exact Nat.le_succ _
theorem Mp.erase_s : (m.erase part pos).1.spans = m.spans := by unfold Mp.erase; split; rfl; exact Mp.note_s
theorem Mp.program_s : (m.program part pos s).1.spans = m.spans := by unfold Mp.program; split; rfl; exact Mp.note_s
theorem Mp.note_ok {o : Op} (ok : m.Ok) : (m.note o e).Ok := ⟨by rw [Mp.note_d]; exact ok.d, by rw [Mp.note_d, Mp.note_s]; exact ok.s, by rw [Mp.note_s]; exact ok.n⟩
theorem Mp.erase_ok (ok : m.Ok) : (m.erase part pos).1.Ok := by
  unfold Mp.erase
  split
  · exact ok
  · exact Mp.note_ok ⟨Dv.erase_ok ok.d, by rw [Dv.erase_len]; exact ok.s, ok.n⟩
theorem Mp.program_ok (ok : m.Ok) (hs : s.length = 64) : (m.program part pos s).1.Ok := by
  unfold Mp.program
  split
  · exact ok
  · exact Mp.note_ok ⟨Dv.program_ok ok.d hs, by rw [Dv.program_len]; exact ok.s, ok.n⟩
theorem Mp.sync_ok (ok : m.Ok) : m.sync.1.Ok := ⟨Dv.sync_ok ok.d, by show ∀ x ∈ m.spans, _ ≤ m.d.sync.1.cells.length; rw [Dv.sync_len]; exact ok.s, ok.n⟩
theorem Mp.Sm.mono {N M : Nat} (h : m.Sm N) (hm : N ≤ M) : m.Sm M := ⟨Nat.le_trans h.1 hm, Nat.le_trans h.2 hm⟩
theorem Mp.erase_sm {N : Nat} (h : m.Sm N) : (m.erase part pos).1.Sm (N + 1) := by
  unfold Mp.erase
  split
  · exact h.mono (Nat.le_succ _)
  · refine ⟨?_, Nat.le_trans Mp.note_ops (Nat.succ_le_succ h.2)⟩
    rw [Mp.note_d]
    exact Nat.le_trans Dv.erase_done (Nat.succ_le_succ h.1)
theorem Mp.program_sm {N : Nat} (h : m.Sm N) : (m.program part pos s).1.Sm (N + 1) := by
  unfold Mp.program
  split
  · exact h.mono (Nat.le_succ _)
  · refine ⟨?_, Nat.le_trans Mp.note_ops (Nat.succ_le_succ h.2)⟩
    rw [Mp.note_d]
    exact Nat.le_trans Dv.program_done (Nat.succ_le_succ h.1)
theorem Mp.sync_sm {N : Nat} (h : m.Sm N) : m.sync.1.Sm N := ⟨Nat.le_trans Dv.sync_done h.1, h.2⟩
theorem Mloc.Eq.rfl' : L.Eq L := ⟨rfl, rfl, rfl, rfl⟩
theorem Mloc.Eq.trans {L L' L'' : Mloc} (h : L.Eq L') (h' : L'.Eq L'') : L.Eq L'' := ⟨h'.m.trans h.m, h'.d.trans h.d, h'.c.trans h.c, h'.s.trans h.s⟩
/-- the map of the same place with another device -/
theorem MW.dev {d' : Dv} {vd' : Value} (h : St H (((Γ ++ MA L m) ++ outB L.vo (opsC m.ops)) ++ DW L.pd L.pc vd' d')) : St H (Γ ++ MW { L with vd := vd' } { m with d := d' }) := MW.ofD (L := { L with vd := vd' }) (m := { m with d := d' }) h
theorem mErase_spec (ok : m.Ok) (hs : m.Sm 1000000) (hO : St H (Γ ++ MW L m)) (hv : Mown L m)
    (hk : ∀ H' L', L.Eq L' → St H' (Γ ++ MW L' (m.erase part pos).1) → Mown L' (m.erase part pos).1 → K (int (m.erase part pos).2) H') : wCall P n_part_Map_Erase [ptr L.pm 0, int part, int pos] H K := by
  apply part_Map_Erase_ok; unfold part_Map_Erase
  refine mPlace_spec ok hO ?_
  refine opP_i ext0 ?_
  refine opP_i ext1 ?_
  refine opP_i bin_neq ?_
  unfold Mp.erase at hk
  refine wIf_dec (fun h => ?_) (fun h => ?_)
  · rw [if_pos h] at hk
    exact hk _ L Mloc.Eq.rfl' hO hv
  · rw [if_neg h] at hk
    refine opP_i (bOp _ _ _) ?_
    repeat (first | refine opP_i (by first | exact qa | exact qs | exact nilCheck_ptr | exact offPtr_ptr | exact bin_eql | exact bin_neq | exact bin_lss | exact bin_gtr | exact bin_leq | exact bin_geq | exact un_not | exact pick_true | exact pick_false | exact qy | exact qn | exact qi | exact qj) ?_ | refine opW_i (by first | exact lenSl_sl | exact min_w | exact max_w) ?_ | refine wy ?_ | refine wn ?_ | refine wIf_t rfl ?_ | refine wIf_f rfl ?_ | refine cond_yes rfl ?_ | refine cond_no rfl ?_)
    refine load_at hO (Γ.length + 0) (at_r rfl) rfl ?_
    refine dErase_spec ok.d hs.1 (MW.toD hO) hv.d ?_
    clear hO
    intro H vd' hO hvd
    refine note_spec (L := { L with vd := vd' }) (m := { m with d := (m.d.erase (m.place part pos).1).1 }) (by have := hs.2; show m.ops.length ≤ _; omega) (MW.dev hO) ⟨hvd, hv.o⟩ ?_
    clear hO
    intro H L' he hO hv'
    exact hk _ L' ⟨he.m, he.d, he.c, he.s⟩ hO hv'
theorem mProgram_spec (ok : m.Ok) (hl : s.length = 64) (hs : m.Sm 1000000) (hO : St H (Γ ++ MW L m)) (hv : Mown L m)
    (hk : ∀ H' L', L.Eq L' → St H' (Γ ++ MW L' (m.program part pos s).1) → Mown L' (m.program part pos s).1 → K (int (m.program part pos s).2) H') : wCall P n_part_Map_Program [ptr L.pm 0, int part, int pos, sec s] H K := by
  apply part_Map_Program_ok; unfold part_Map_Program
  refine new_at hO ?_
  clear hO
  intro p7 H hO
  replace hO := hO.rot
  replace hO : St H ((Γ ++ [(p7, ⟨by8 s, true⟩)]) ++ MW L m) := hO
  have i7 : (Γ ++ [(p7, (⟨by8 s, true⟩ : Blk))])[Γ.length + 0]? = some (p7, ⟨by8 s, true⟩) := at_r rfl
  have fin : ∀ {H : Heap} {Δ : List (Nat × Blk)}, St H ((Γ ++ [(p7, ⟨by8 s, true⟩)]) ++ Δ) → St H (Γ ++ Δ) := fun h => St.mid h
  generalize Γ ++ [(p7, (⟨by8 s, true⟩ : Blk))] = Γ' at hO i7 fin
  refine mPlace_spec ok hO ?_
  refine opP_i ext0 ?_
  refine opP_i ext1 ?_
  refine opP_i bin_neq ?_
  unfold Mp.program at hk
  refine wIf_dec (fun h => ?_) (fun h => ?_)
  · rw [if_pos h] at hk
    exact hk _ L Mloc.Eq.rfl' (fin hO) hv
  · rw [if_neg h] at hk
    refine opP_i (bOp _ _ _) ?_
    repeat (first | refine opP_i (by first | exact qa | exact qs | exact nilCheck_ptr | exact offPtr_ptr | exact bin_eql | exact bin_neq | exact bin_lss | exact bin_gtr | exact bin_leq | exact bin_geq | exact un_not | exact pick_true | exact pick_false | exact qy | exact qn | exact qi | exact qj) ?_ | refine opW_i (by first | exact lenSl_sl | exact min_w | exact max_w) ?_ | refine wy ?_ | refine wn ?_ | refine wIf_t rfl ?_ | refine wIf_f rfl ?_ | refine cond_yes rfl ?_ | refine cond_no rfl ?_)
    refine load_at hO (Γ'.length + 0) (at_r rfl) rfl ?_
    refine loadAll_at hO (Γ.length + 0) (at_l i7) (by rw [by8_len]; exact hl) (by omega) ?_
    refine dProgram_spec ok.d hl hs.1 (MW.toD hO) hv.d ?_
    clear hO
    intro H vd' hO hvd
    refine note_spec (L := { L with vd := vd' }) (m := { m with d := (m.d.program (m.place part pos).1 s).1 }) (by have := hs.2; show m.ops.length ≤ _; omega) (MW.dev hO) ⟨hvd, hv.o⟩ ?_
    clear hO
    intro H L' he hO hv'
    exact hk _ L' ⟨he.m, he.d, he.c, he.s⟩ (fin hO) hv'
theorem mSync_spec (ok : m.Ok) (hs : m.Sm 1000000) (hO : St H (Γ ++ MW L m)) (hv : Mown L m)
    (hk : ∀ H' L', L.Eq L' → St H' (Γ ++ MW L' m.sync.1) → Mown L' m.sync.1 → K (int m.sync.2) H') : wCall P n_part_Map_Sync [ptr L.pm 0] H K := by
  apply part_Map_Sync_ok; unfold part_Map_Sync
  repeat (first | refine opP_i (by first | exact qa | exact qs | exact nilCheck_ptr | exact offPtr_ptr | exact bin_eql | exact bin_neq | exact bin_lss | exact bin_gtr | exact bin_leq | exact bin_geq | exact un_not | exact pick_true | exact pick_false | exact qy | exact qn | exact qi | exact qj) ?_ | refine opW_i (by first | exact lenSl_sl | exact min_w | exact max_w) ?_ | refine wy ?_ | refine wn ?_ | refine wIf_t rfl ?_ | refine wIf_f rfl ?_ | refine cond_yes rfl ?_ | refine cond_no rfl ?_)
  refine load_at hO (Γ.length + 0) (at_r rfl) rfl ?_
  refine dSync_spec ok.d hs.1 (MW.toD hO) hv.d ?_
  clear hO
  intro H vd' hO hvd
  exact hk H { L with vd := vd' } ⟨rfl, rfl, rfl, rfl⟩ (MW.dev hO) ⟨hvd, hv.o⟩
/-- erase all that isn't blank -/
def Mp.wipeN (part : Int) : Nat → Nat → Mp → Mp × Int
  | 0, _, m => (m, 0)
  | n + 1, y, m => if (m.read part y).1 = blank then wipeN part n (y + 1) m else if (m.erase part y).2 ≠ 0 then m.erase part y else wipeN part n (y + 1) (m.erase part y).1
theorem Mp.wipeN_zero {y : Nat} : Mp.wipeN part 0 y m = (m, 0) := rfl
theorem Mp.wipeN_succ {n y : Nat} : Mp.wipeN part (n + 1) y m = if (m.read part y).1 = blank then wipeN part n (y + 1) m else if (m.erase part y).2 ≠ 0 then m.erase part y else wipeN part n (y + 1) (m.erase part y).1 := rfl
def Mp.wipe (m : Mp) (part : Int) : Mp × Int := if ¬ m.has part then (m, 71) else Mp.wipeN part (m.size part) 0 m
theorem mWipe_spec {N : Nat} (ok : m.Ok) (hs : m.Sm N) (hN : N + 5000 ≤ 1000000) (hO : St H (Γ ++ MW L m)) (hv : Mown L m)
    (hk : ∀ H' L', L.Eq L' → St H' (Γ ++ MW L' (m.wipe part).1) → Mown L' (m.wipe part).1 → K (int (m.wipe part).2) H') : wCall P n_part_Map_Wipe [ptr L.pm 0, int part] H K := by
  apply part_Map_Wipe_ok; unfold part_Map_Wipe
  refine mHas_spec hO ?_
  unfold Mp.wipe at hk
  refine opP_i un_not ?_
  by_cases h : m.has part
  · rw [if_neg (fun h' => h' h)] at hk
    rw [decide_eq_true h]
    refine wIf_f rfl ?_
    refine mSize_spec hO ?_
    have hsz : m.size part ≤ 4096 := by
      unfold Mp.size
      rw [if_pos h]
      have := ok.s _ (Mp.span_mem h)
      have := ok.d.n
      omega
    refine part_Map_Wipe_L0_ind (fun k l' H' => ∃ (y : Nat) (L2 : Mloc) (m2 : Mp), y ≤ m.size part ∧ k = m.size part - y ∧ l' = [ptr L.pm 0, int part, int 0, int (m.size part), int y] ∧ L.Eq L2 ∧ m2.Ok ∧ m2.Sm (N + y) ∧ St H' (Γ ++ MW L2 m2) ∧ Mown L2 m2 ∧ Mp.wipeN part (m.size part) 0 m = Mp.wipeN part (m.size part - y) y m2) _ _ ?_ (m.size part) _ _ ⟨0, L, m, by omega, rfl, rfl, Mloc.Eq.rfl', ok, hs, hO, hv, rfl⟩
    clear hO
    rintro k l' H ⟨y, L2, m2, hy, rfl, rfl, he, ok2, hs2, hO, hv2, hw⟩
    unfold part_Map_Wipe_L0
    try simp only [nth_zero, nth_succ]
    repeat (first | refine opP_i (by first | exact qa | exact qs | exact nilCheck_ptr | exact offPtr_ptr | exact bin_eql | exact bin_neq | exact bin_lss | exact bin_gtr | exact bin_leq | exact bin_geq | exact un_not | exact pick_true | exact pick_false | exact qy | exact qn | exact qi | exact qj) ?_ | refine opW_i (by first | exact lenSl_sl | exact min_w | exact max_w) ?_ | refine wy ?_ | refine wn ?_ | refine wIf_t rfl ?_ | refine wIf_f rfl ?_ | refine cond_yes rfl ?_ | refine cond_no rfl ?_)
    refine wIf_dec (fun h1 => ?_) (fun h1 => ?_)
    · have hyl : y < m.size part := by omega
      rw [show m.size part - y = (m.size part - (y + 1)) + 1 by omega] at hw
      rw [Mp.wipeN_succ] at hw
      have em := he.m
      rw [← em]
      refine mRead_spec ok2 hO ?_
      clear hO
      intro H hO
      have hl := Mp.read_len ok2 (part := part) (pos := (y : Int))
      refine opP_i ext0 ?_
      refine opP_i ext1 ?_
      rw [zcS]
      refine new_at hO ?_
      clear hO
      intro p6 H hO
      refine storeAll_at hO ((Γ ++ MW L2 m2).length + 0) (at_r rfl) (by rw [by8_len]; rfl) (by rw [by8_len]; exact hl) (by8_one _) ?_
      clear hO
      intro H hO
      replace hO : St H ((Γ ++ MW L2 m2) ++ [(p6, ⟨by8 (m2.read part y).1, true⟩)]) := hO.set_r
      refine loadAll_at hO ((Γ ++ MW L2 m2).length + 0) (at_r rfl) (by rw [by8_len]; exact hl) (by omega) ?_
      refine Blank_spec hO ?_
      intro H2 hO2
      refine ⟨same_at hO ((Γ ++ MW L2 m2).length + 0) (at_r rfl) hO2 ((Γ ++ MW L2 m2).length + 0) (at_r rfl) (by8_simple _), ?_⟩
      clear hO
      have hO := hO2.left
      clear hO2
      refine opP_i (eqS _ hl rfl) ?_
      refine wIf_dec (fun h2 => ?_) (fun h2 => ?_)
      · rw [if_pos h2] at hw
        repeat (first | refine opP_i (by first | exact qa | exact qs | exact nilCheck_ptr | exact offPtr_ptr | exact bin_eql | exact bin_neq | exact bin_lss | exact bin_gtr | exact bin_leq | exact bin_geq | exact un_not | exact pick_true | exact pick_false | exact qy | exact qn | exact qi | exact qj) ?_ | refine opW_i (by first | exact lenSl_sl | exact min_w | exact max_w) ?_ | refine wy ?_ | refine wn ?_ | refine wIf_t rfl ?_ | refine wIf_f rfl ?_ | refine cond_yes rfl ?_ | refine cond_no rfl ?_)
        exact ⟨_, by omega, y + 1, L2, m2, by omega, rfl, by rw [em]; rfl, he, ok2, hs2.mono (by omega), hO, hv2, hw⟩
      · rw [if_neg h2] at hw
        refine mErase_spec ok2 (hs2.mono (by omega)) hO hv2 ?_
        clear hO
        intro H L3 he3 hO hv3
        refine opP_i bin_neq ?_
        refine wIf_dec (fun h3 => ?_) (fun h3 => ?_)
        · rw [if_pos h3] at hw
          try simp only [nth_zero, nth_succ]
          rw [hw] at hk
          exact hk _ L3 (he.trans he3) hO hv3
        · rw [if_neg h3] at hw
          repeat (first | refine opP_i (by first | exact qa | exact qs | exact nilCheck_ptr | exact offPtr_ptr | exact bin_eql | exact bin_neq | exact bin_lss | exact bin_gtr | exact bin_leq | exact bin_geq | exact un_not | exact pick_true | exact pick_false | exact qy | exact qn | exact qi | exact qj) ?_ | refine opW_i (by first | exact lenSl_sl | exact min_w | exact max_w) ?_ | refine wy ?_ | refine wn ?_ | refine wIf_t rfl ?_ | refine wIf_f rfl ?_ | refine cond_yes rfl ?_ | refine cond_no rfl ?_)
          exact ⟨_, by omega, y + 1, L3, _, by omega, rfl, by rw [em]; rfl, he.trans he3, Mp.erase_ok ok2, (Mp.erase_sm hs2).mono (by omega), hO, hv3, hw⟩
    · have ey : y = m.size part := by omega
      subst ey
      rw [Nat.sub_self] at hw
      rw [Mp.wipeN_zero] at hw
      rw [hw] at hk
      repeat (first | refine opP_i (by first | exact qa | exact qs | exact nilCheck_ptr | exact offPtr_ptr | exact bin_eql | exact bin_neq | exact bin_lss | exact bin_gtr | exact bin_leq | exact bin_geq | exact un_not | exact pick_true | exact pick_false | exact qy | exact qn | exact qi | exact qj) ?_ | refine opW_i (by first | exact lenSl_sl | exact min_w | exact max_w) ?_ | refine wy ?_ | refine wn ?_ | refine wIf_t rfl ?_ | refine wIf_f rfl ?_ | refine cond_yes rfl ?_ | refine cond_no rfl ?_)
      exact hk _ L2 he hO hv2
  · rw [if_pos h] at hk
    rw [decide_eq_false h]
    exact wIf_t rfl (hk _ L Mloc.Eq.rfl' hO hv)
end J
set_option linter.unusedVariables false
set_option linter.unusedSimpArgs false
set_option maxRecDepth 100000
namespace J
open Go Go.Ab
variable {H : Heap} {Γ : List (Nat × Blk)} {K : Value → Heap → Prop} {v w x : Value} {xs ys bs : List Int} {j p : Nat} {e : Int}
variable {L : Mloc} {m : Mp} {part pos : Int} {s : List Int}
theorem mOps_spec (hO : St H (Γ ++ MW L m)) (hv : Mown L m)
    (hk : ∀ H', St H' ((Γ ++ outB L.vo (opsC m.ops)) ++ MW { L with vo := nilSl } { m with ops := [] }) → Mown { L with vo := nilSl } { m with ops := [] } → K L.vo H') : wCall P n_part_Map_Ops [ptr L.pm 0] H K := by
  apply part_Map_Ops_ok; unfold part_Map_Ops
  repeat (first | refine opP_i (by first | exact qa | exact qs | exact nilCheck_ptr | exact offPtr_ptr | exact bin_eql | exact bin_neq | exact bin_lss | exact bin_gtr | exact bin_leq | exact bin_geq | exact un_not | exact pick_true | exact pick_false | exact qy | exact qn | exact qi | exact qj) ?_ | refine opW_i (by first | exact lenSl_sl | exact min_w | exact max_w) ?_ | refine wy ?_ | refine wn ?_ | refine wIf_t rfl ?_ | refine wIf_f rfl ?_ | refine cond_yes rfl ?_ | refine cond_no rfl ?_)
  refine load_at hO (Γ.length + 0) (at_r rfl) rfl ?_
  repeat (first | refine opP_i (by first | exact qa | exact qs | exact nilCheck_ptr | exact offPtr_ptr | exact bin_eql | exact bin_neq | exact bin_lss | exact bin_gtr | exact bin_leq | exact bin_geq | exact un_not | exact pick_true | exact pick_false | exact qy | exact qn | exact qi | exact qj) ?_ | refine opW_i (by first | exact lenSl_sl | exact min_w | exact max_w) ?_ | refine wy ?_ | refine wn ?_ | refine wIf_t rfl ?_ | refine wIf_f rfl ?_ | refine cond_yes rfl ?_ | refine cond_no rfl ?_)
  refine store1_at hO (Γ.length + 0) (at_r rfl) rfl (show 3 < 4 by omega) rfl ?_
  clear hO
  intro H hO
  have h3 : St H (Γ ++ (MA { L with vo := nilSl } { m with ops := [] } ++ (outB L.vo (opsC m.ops) ++ DW L.pd L.pc L.vd m.d))) := hO.set_r
  refine hk H ?_ ⟨hv.d, .inl ⟨rfl, rfl, rfl⟩⟩
  refine h3.perm ?_
  show (Γ ++ (MA _ _ ++ (outB L.vo (opsC m.ops) ++ DW L.pd L.pc L.vd m.d))).Perm ((Γ ++ outB L.vo (opsC m.ops)) ++ (MA _ _ ++ ([] ++ DW L.pd L.pc L.vd m.d)))
  rw [List.append_assoc, List.nil_append, ← List.append_assoc (MA _ _), ← List.append_assoc (outB _ _)]
  exact List.Perm.append_left Γ (List.Perm.append_right _ List.perm_append_comm)
def spansFrom : Nat → List Nat → List (Nat × Nat)
  | _, [] => []
  | n, x :: l => (n, x) :: spansFrom (n + x) l
theorem spans_len : ∀ (l : List Nat) (n : Nat), (spansFrom n l).length = l.length
  | [], _ => rfl
  | x :: l, n => by show (spansFrom (n + x) l).length + 1 = _; rw [spans_len l]; rfl
theorem spans_take : ∀ (l : List Nat) (n y : Nat) (h : y < l.length), (spansFrom n l).take (y + 1) = (spansFrom n l).take y ++ [(n + (l.take y).sum, l[y])]
  | x :: l, n, 0, _ => by simp [spansFrom]
  | x :: l, n, y + 1, h => by
    have := spans_take l (n + x) y (by simpa using h)
    show (n, x) :: (spansFrom (n + x) l).take (y + 1) = (n, x) :: (spansFrom (n + x) l).take y ++ [(n + (x + (l.take y).sum), _)]
    rw [this, Nat.add_assoc]; rfl
theorem bMap (pd : Nat) : (buildC P 69).f [(0, ptr pd 0)] = some (agg [ptr pd 0, nilSl, int 0, nilSl]) := by kernel_rfl
theorem bSpan (a b : Int) : (buildC P 85).f [(0, int a), (1, int b)] = some (agg [int a, int b]) := by kernel_rfl
theorem bsSpan (a b : Int) (H : Heap) : (buildSliceC P 67 1).f [(0, agg [int a, int b])] H = some (sl H.next 0 1 5, H.push [int a, int b]) := by kernel_rfl
theorem sum_take_le : ∀ (l : List Nat) (y : Nat), (l.take y).sum ≤ l.sum
  | [], y => by simp
  | x :: l, 0 => by simp
  | x :: l, y + 1 => by simp; exact sum_take_le l y
theorem sum_take_succ (l : List Nat) (y : Nat) (h : y < l.length) : (l.take (y + 1)).sum = (l.take y).sum + l[y] := by
  rw [List.take_succ_eq_append_getElem h, List.sum_append]; simp
set_option maxHeartbeats 1000000 in
theorem mNew_spec {pd pc q c : Nat} {vd : Value} {d : Dv} {sizes : List Nat} {jz : Nat} {b : Bool} (ok : d.Ok) (hO : St H (Γ ++ DW pd pc vd d)) (hz : Γ[jz]? = some (q, ⟨sizes.map fun (n : Nat) => int n, b⟩)) (h0 : 0 < sizes.length) (h16 : sizes.length ≤ 16)
    (h1 : ∀ n ∈ sizes, 1 ≤ n) (hs : sizes.sum ≤ d.cells.length) (hv : OwnD vd d)
    (hk : ∀ H' pm ps, St H' (Γ ++ MW ⟨pm, pd, pc, ps, vd, nilSl⟩ ⟨d, spansFrom 0 sizes, 0, []⟩) → Mown ⟨pm, pd, pc, ps, vd, nilSl⟩ ⟨d, spansFrom 0 sizes, 0, []⟩ → K (.tuple [ptr pm 0, int 0].toArray) H') : wCall P n_part_New [ptr pd 0, sl q 0 sizes.length c] H K := by
  apply part_New_ok; unfold part_New
  refine join_with (fun l' H' => l' = [ptr pd 0, sl q 0 sizes.length c, .pointer none, int 0, .bool false] ∧ H' = H) ?_ ?_
  · repeat (first | refine opP_i (by first | exact qa | exact qs | exact nilCheck_ptr | exact offPtr_ptr | exact bin_eql | exact bin_neq | exact bin_lss | exact bin_gtr | exact bin_leq | exact bin_geq | exact un_not | exact pick_true | exact pick_false | exact qy | exact qn | exact qi | exact qj) ?_ | refine opW_i (by first | exact lenSl_sl | exact min_w | exact max_w) ?_ | refine wy ?_ | refine wn ?_ | refine wIf_t rfl ?_ | refine wIf_f rfl ?_ | refine cond_yes rfl ?_ | refine cond_no rfl ?_)
    rw [decide_eq_false (by omega)]
    exact ⟨rfl, rfl⟩
  rintro l' H' ⟨rfl, rfl⟩
  try simp only [nth_zero, nth_succ]
  refine wIf_f rfl ?_
  refine opP_i (bMap pd) ?_
  refine new_at hO ?_
  clear hO
  intro pm H hO
  replace hO : St H (((Γ ++ DW pd pc vd d) ++ [(pm, ⟨[ptr pd 0, nilSl, int 0, nilSl], true⟩)]) ++ outB nilSl (spC [])) := by
    show St H (((Γ ++ DW pd pc vd d) ++ [(pm, ⟨[ptr pd 0, nilSl, int 0, nilSl], true⟩)]) ++ [])
    rw [List.append_nil]; exact hO
  repeat (first | refine opP_i (by first | exact qa | exact qs | exact nilCheck_ptr | exact offPtr_ptr | exact bin_eql | exact bin_neq | exact bin_lss | exact bin_gtr | exact bin_leq | exact bin_geq | exact un_not | exact pick_true | exact pick_false | exact qy | exact qn | exact qi | exact qj) ?_ | refine opW_i (by first | exact lenSl_sl | exact min_w | exact max_w) ?_ | refine wy ?_ | refine wn ?_ | refine wIf_t rfl ?_ | refine wIf_f rfl ?_ | refine cond_yes rfl ?_ | refine cond_no rfl ?_)
  have hdn := ok.n
  have hlen := spans_len sizes 0
  refine part_New_L0_ind (fun k l' H' => ∃ (y : Nat) (vs : Value), y ≤ sizes.length ∧ k = sizes.length - y ∧ l' = [ptr pd 0, .pointer none, int 0, ptr pm 0, int ((sizes.take y).sum : Nat), sl q 0 sizes.length c, int sizes.length, int y] ∧ St H' (((Γ ++ DW pd pc vd d) ++ [(pm, ⟨[ptr pd 0, vs, int 0, nilSl], true⟩)]) ++ outB vs (spC ((spansFrom 0 sizes).take y))) ∧ Own 2 vs y (spC ((spansFrom 0 sizes).take y)) ∧ (0 < y → ∃ ps, vs = sl ps 0 y 4)) _ _ ?_ sizes.length _ _ ⟨0, nilSl, by omega, rfl, rfl, hO, .inl ⟨rfl, rfl, rfl⟩, fun h => absurd h (by omega)⟩
  clear hO
  rintro k l' H ⟨y, vs, hy, rfl, rfl, hO, hvs, hps⟩
  unfold part_New_L0
  try simp only [nth_zero, nth_succ]
  have hst := sum_take_le sizes y
  repeat (first | refine opP_i (by first | exact qa | exact qs | exact nilCheck_ptr | exact offPtr_ptr | exact bin_eql | exact bin_neq | exact bin_lss | exact bin_gtr | exact bin_leq | exact bin_geq | exact un_not | exact pick_true | exact pick_false | exact qy | exact qn | exact qi | exact qj) ?_ | refine opW_i (by first | exact lenSl_sl | exact min_w | exact max_w) ?_ | refine wy ?_ | refine wn ?_ | refine wIf_t rfl ?_ | refine wIf_f rfl ?_ | refine cond_yes rfl ?_ | refine cond_no rfl ?_)
  refine wIf_dec (fun h => ?_) (fun h => ?_)
  · have hyl : y < sizes.length := by omega
    have hm := h1 _ (List.getElem_mem hyl)
    have hst1 := sum_take_le sizes (y + 1)
    have hss := sum_take_succ sizes y hyl
    refine opP_i (idxSl_ok (by omega) (by omega)) ?_
    refine load_at hO jz (at_l (at_l (at_l hz))) (v := int sizes[y]) (by
      show (sizes.map fun (n : Nat) => int n)[0 + ((y : Nat) : Int).toNat * 1]? = _
      rw [Int.toNat_natCast, show 0 + y * 1 = y by omega]; simp [hyl]) ?_
    refine join_with (fun l' H' => l' = [ptr pd 0, .pointer none, int 0, ptr pm 0, int ((sizes.take y).sum : Nat), int sizes[y], sl q 0 sizes.length c, int sizes.length, int y, .bool false] ∧ H' = H) ?_ ?_
    · refine opP_i bin_lss ?_
      rw [decide_eq_false (show ¬ ((sizes[y] : Nat) : Int) < 1 by omega)]
      refine wIf_f rfl ?_
      refine dSize_spec hO (at_l (at_l (at_r (k := 0) rfl))) ?_
      repeat (first | refine opP_i (by first | exact qa | exact qs | exact nilCheck_ptr | exact offPtr_ptr | exact bin_eql | exact bin_neq | exact bin_lss | exact bin_gtr | exact bin_leq | exact bin_geq | exact un_not | exact pick_true | exact pick_false | exact qy | exact qn | exact qi | exact qj) ?_ | refine opW_i (by first | exact lenSl_sl | exact min_w | exact max_w) ?_ | refine wy ?_ | refine wn ?_ | refine wIf_t rfl ?_ | refine wIf_f rfl ?_ | refine cond_yes rfl ?_ | refine cond_no rfl ?_)
      rw [decide_eq_false (show ¬ ((d.cells.length : Int) - ((sizes.take y).sum : Nat)) < ((sizes[y] : Nat) : Int) by omega)]
      exact ⟨rfl, rfl⟩
    rintro l' H' ⟨rfl, rfl⟩
    try simp only [nth_zero, nth_succ]
    refine wIf_f rfl ?_
    repeat (first | refine opP_i (by first | exact qa | exact qs | exact nilCheck_ptr | exact offPtr_ptr | exact bin_eql | exact bin_neq | exact bin_lss | exact bin_gtr | exact bin_leq | exact bin_geq | exact un_not | exact pick_true | exact pick_false | exact qy | exact qn | exact qi | exact qj) ?_ | refine opW_i (by first | exact lenSl_sl | exact min_w | exact max_w) ?_ | refine wy ?_ | refine wn ?_ | refine wIf_t rfl ?_ | refine wIf_f rfl ?_ | refine cond_yes rfl ?_ | refine cond_no rfl ?_)
    refine load_at hO ((Γ ++ DW pd pc vd d).length + 0) (at_l (at_r rfl)) rfl ?_
    refine opP_i (bSpan _ _) ?_
    refine newSl_at hO (bsSpan _ _ _) ?_
    clear hO
    intro q2 H hO
    refine append_elem2 hO hvs rfl (by omega) rfl (by omega) (by omega) ?_
    clear hO
    intro ps H hO hvs'
    have e5 : spC ((spansFrom 0 sizes).take y) ++ [int ((sizes.take y).sum : Nat), int sizes[y]] = spC ((spansFrom 0 sizes).take (y + 1)) := by
      rw [spans_take sizes 0 y hyl]
      simp [spC]
    rw [e5] at hO hvs'
    repeat (first | refine opP_i (by first | exact qa | exact qs | exact nilCheck_ptr | exact offPtr_ptr | exact bin_eql | exact bin_neq | exact bin_lss | exact bin_gtr | exact bin_leq | exact bin_geq | exact un_not | exact pick_true | exact pick_false | exact qy | exact qn | exact qi | exact qj) ?_ | refine opW_i (by first | exact lenSl_sl | exact min_w | exact max_w) ?_ | refine wy ?_ | refine wn ?_ | refine wIf_t rfl ?_ | refine wIf_f rfl ?_ | refine cond_yes rfl ?_ | refine cond_no rfl ?_)
    refine store1_at hO ((Γ ++ DW pd pc vd d).length + 0) (at_l (at_r rfl)) rfl (show 1 < 4 by omega) rfl ?_
    clear hO
    intro H hO
    rw [List.set_append_left _ _ (by simp), Go.Ab.set_r] at hO
    repeat (first | refine opP_i (by first | exact qa | exact qs | exact nilCheck_ptr | exact offPtr_ptr | exact bin_eql | exact bin_neq | exact bin_lss | exact bin_gtr | exact bin_leq | exact bin_geq | exact un_not | exact pick_true | exact pick_false | exact qy | exact qn | exact qi | exact qj) ?_ | refine opW_i (by first | exact lenSl_sl | exact min_w | exact max_w) ?_ | refine wy ?_ | refine wn ?_ | refine wIf_t rfl ?_ | refine wIf_f rfl ?_ | refine cond_yes rfl ?_ | refine cond_no rfl ?_)
    refine ⟨_, by omega, y + 1, _, by omega, rfl, ?_, hO, hvs', fun _ => ⟨ps, rfl⟩⟩
    rw [hss]
    simp
  · have ey : y = sizes.length := by omega
    subst ey
    rw [List.take_of_length_le (by rw [hlen]; exact Nat.le_refl _)] at hO hvs
    obtain ⟨ps, rfl⟩ := hps h0
    repeat (first | refine opP_i (by first | exact qa | exact qs | exact nilCheck_ptr | exact offPtr_ptr | exact bin_eql | exact bin_neq | exact bin_lss | exact bin_gtr | exact bin_leq | exact bin_geq | exact un_not | exact pick_true | exact pick_false | exact qy | exact qn | exact qi | exact qj) ?_ | refine opW_i (by first | exact lenSl_sl | exact min_w | exact max_w) ?_ | refine wy ?_ | refine wn ?_ | refine wIf_t rfl ?_ | refine wIf_f rfl ?_ | refine cond_yes rfl ?_ | refine cond_no rfl ?_)
    refine hk H pm ps ?_ ⟨hv, .inl ⟨rfl, rfl, rfl⟩⟩
    have h3 : St H (((Γ ++ DW pd pc vd d) ++ [(pm, ⟨[ptr pd 0, sl ps 0 sizes.length 4, int 0, nilSl], true⟩)]) ++ [(ps, ⟨spC (spansFrom 0 sizes), true⟩)]) := hO
    rw [List.append_assoc] at h3
    have h4 := h3.rot
    rw [List.append_assoc] at h4
    have e7 : mv ⟨pm, pd, pc, ps, vd, nilSl⟩ ⟨d, spansFrom 0 sizes, 0, []⟩ = [ptr pd 0, sl ps 0 sizes.length 4, int 0, nilSl] := by unfold mv; rw [hlen]
    show St H (Γ ++ ([(pm, ⟨mv ⟨pm, pd, pc, ps, vd, nilSl⟩ ⟨d, spansFrom 0 sizes, 0, []⟩, true⟩), (ps, ⟨spC (spansFrom 0 sizes), true⟩)] ++ ([] ++ DW pd pc vd d)))
    rw [e7, List.nil_append]
    exact h4
end J
set_option linter.unusedVariables false
set_option linter.unusedSimpArgs false
set_option maxRecDepth 100000
namespace J
open Go Go.Ab
variable {H : Heap} {Γ : List (Nat × Blk)} {K : Value → Heap → Prop} {v w x : Value} {xs ys bs : List Int} {j p : Nat} {e : Int}
/-! the sum -/
noncomputable def crcB (r : Nat) (x : Int) : Nat := crcN 8 (r ^^^ x.toNat)
noncomputable def crcMore (sum : Nat) (bs : List Int) : Nat := 4294967295 - bs.foldl crcB (4294967295 - sum)
theorem crcB_lt {r : Nat} {x : Int} (h : r < 4294967296) (hx : 0 ≤ x ∧ x ≤ 255) : crcB r x < 4294967296 := crcN_lt (Nat.xor_lt_two_pow (n := 32) h (show x.toNat < 2 ^ 32 by omega)) 8
theorem crcF_lt : ∀ (bs : List Int) (r : Nat), r < 4294967296 → (∀ x ∈ bs, 0 ≤ x ∧ x ≤ 255) → bs.foldl crcB r < 4294967296
  | [], _, h, _ => h
  | x :: bs, r, h, hb => crcF_lt bs _ (crcB_lt h (hb x List.mem_cons_self)) fun y hy => hb y (List.mem_cons_of_mem _ hy)
theorem byte_at {K : Value → Heap → Prop} (hO : St H Γ) (h : RdB Γ v xs) {i : Int} {n : Nat} (hn : i = n) (hi : n < xs.length) (hk : K (.int .u8 xs[n]) H) : opP (idxSl 1 v (int i)) fun t => opW (loadOne t H) K := by
  subst hn
  obtain ⟨p2, o, c, j2, b, rfl, h1, h2⟩ := h.at hi
  refine opP_i (idxSl_ok (by omega) (by omega)) ?_
  exact load_at hO j2 h1 (v := .int .u8 xs[n]) (by simpa using h2) hk
theorem crc_More_spec {sum : Nat} (hO : St H Γ) (hv : RdB Γ v bs) (hb : ∀ x ∈ bs, 0 ≤ x ∧ x ≤ 255) (hl : bs.length ≤ 1000000000) (hs : sum < 4294967296) (hk : K (uint .u32 (crcMore sum bs)) H) : wCall P n_crc_More [uint .u32 sum, v] H K := by
  apply crc_More_ok; unfold crc_More
  refine opP_i (un_notU rfl hs) ?_
  refine opW_i hv.lenSl ?_
  have hsz : szU .u32 - 1 - sum = 4294967295 - sum := rfl
  refine crc_More_L0_ind (fun k l' H' => ∃ y : Nat, y ≤ bs.length ∧ k = bs.length - y ∧ l' = [.int .u32 0, uint .u32 ((bs.take y).foldl crcB (4294967295 - sum)), v, int bs.length, int y] ∧ H' = H) _ _ ?_ bs.length _ _ ⟨0, by omega, rfl, rfl, rfl⟩
  rintro k l' H' ⟨y, hy, rfl, rfl, rfl⟩
  unfold crc_More_L0
  try simp only [nth_zero, nth_succ]
  have hlt := crcF_lt (bs.take y) (4294967295 - sum) (by omega) fun x hx => hb x (List.mem_of_mem_take hx)
  repeat (first | refine opP_i (by first | exact qa | exact qs | exact nilCheck_ptr | exact offPtr_ptr | exact bin_eql | exact bin_neq | exact bin_lss | exact bin_gtr | exact bin_leq | exact bin_geq | exact un_not | exact pick_true | exact pick_false | exact qy | exact qn | exact qi | exact qj) ?_ | refine opW_i (by first | exact lenSl_sl | exact min_w | exact max_w) ?_ | refine wy ?_ | refine wn ?_ | refine wIf_t rfl ?_ | refine wIf_f rfl ?_ | refine cond_yes rfl ?_ | refine cond_no rfl ?_)
  refine wIf_dec (fun h => ?_) (fun h => ?_)
  · have hyl : y < bs.length := by omega
    have hx := hb _ (List.getElem_mem hyl)
    refine byte_at (n := y) hO hv rfl hyl ?_
    rw [uint_of hx.1]
    refine opW_i (cvU rfl) ?_
    rw [show bs[y].toNat % szU .u32 = bs[y].toNat from Nat.mod_eq_of_lt (show bs[y].toNat < 2 ^ 32 by omega)]
    refine opP_i (bin_xorU rfl hlt (show bs[y].toNat < 2 ^ 32 by omega)) ?_
    refine crc_step_spec (Nat.xor_lt_two_pow (n := 32) hlt (show bs[y].toNat < 2 ^ 32 by omega)) ?_
    repeat (first | refine opP_i (by first | exact qa | exact qs | exact nilCheck_ptr | exact offPtr_ptr | exact bin_eql | exact bin_neq | exact bin_lss | exact bin_gtr | exact bin_leq | exact bin_geq | exact un_not | exact pick_true | exact pick_false | exact qy | exact qn | exact qi | exact qj) ?_ | refine opW_i (by first | exact lenSl_sl | exact min_w | exact max_w) ?_ | refine wy ?_ | refine wn ?_ | refine wIf_t rfl ?_ | refine wIf_f rfl ?_ | refine cond_yes rfl ?_ | refine cond_no rfl ?_)
    refine ⟨_, by omega, y + 1, by omega, rfl, ?_, rfl⟩
    rw [List.take_succ_eq_append_getElem hyl, List.foldl_append]; rfl
  · have e : y = bs.length := by omega
    subst e
    repeat (first | refine opP_i (by first | exact qa | exact qs | exact nilCheck_ptr | exact offPtr_ptr | exact bin_eql | exact bin_neq | exact bin_lss | exact bin_gtr | exact bin_leq | exact bin_geq | exact un_not | exact pick_true | exact pick_false | exact qy | exact qn | exact qi | exact qj) ?_ | refine opW_i (by first | exact lenSl_sl | exact min_w | exact max_w) ?_ | refine wy ?_ | refine wn ?_ | refine wIf_t rfl ?_ | refine wIf_f rfl ?_ | refine cond_yes rfl ?_ | refine cond_no rfl ?_)
    refine opP_i (un_notU rfl hlt) ?_
    rw [List.take_length] 
    exact hk
theorem crc_Sum_spec {c jz q : Nat} {b : Bool} (hO : St H Γ) (hz : Γ[jz]? = some (q, ⟨[v], b⟩)) (hv : RdB Γ v bs) (hb : ∀ x ∈ bs, 0 ≤ x ∧ x ≤ 255) (hl : bs.length ≤ 1000000000) (hk : K (uint .u32 (crcMore 0 bs)) H) : wCall P n_crc_Sum [sl q 0 1 c] H K := by
  apply crc_Sum_ok; unfold crc_Sum
  repeat (first | refine opP_i (by first | exact qa | exact qs | exact nilCheck_ptr | exact offPtr_ptr | exact bin_eql | exact bin_neq | exact bin_lss | exact bin_gtr | exact bin_leq | exact bin_geq | exact un_not | exact pick_true | exact pick_false | exact qy | exact qn | exact qi | exact qj) ?_ | refine opW_i (by first | exact lenSl_sl | exact min_w | exact max_w) ?_ | refine wy ?_ | refine wn ?_ | refine wIf_t rfl ?_ | refine wIf_f rfl ?_ | refine cond_yes rfl ?_ | refine cond_no rfl ?_)
  refine crc_Sum_L0_ind (fun k l' H' => ∃ y : Nat, y ≤ 1 ∧ k = 1 - y ∧ l' = [.int .u32 0, uint .u32 (if y = 0 then 0 else crcMore 0 bs), sl q 0 1 c, int 1, int y] ∧ H' = H) _ _ ?_ 1 _ _ ⟨0, by omega, rfl, rfl, rfl⟩
  rintro k l' H' ⟨y, hy, rfl, rfl, rfl⟩
  unfold crc_Sum_L0
  try simp only [nth_zero, nth_succ]
  refine opP_i bin_lss ?_
  refine wIf_dec (fun h => ?_) (fun h => ?_)
  · have ey : y = 0 := by omega
    subst ey
    refine opP_i (idxSl_ok (by omega) (by omega)) ?_
    refine load_at hO jz hz rfl ?_
    refine crc_More_spec (sum := 0) hO hv hb hl (by omega) ?_
    repeat (first | refine opP_i (by first | exact qa | exact qs | exact nilCheck_ptr | exact offPtr_ptr | exact bin_eql | exact bin_neq | exact bin_lss | exact bin_gtr | exact bin_leq | exact bin_geq | exact un_not | exact pick_true | exact pick_false | exact qy | exact qn | exact qi | exact qj) ?_ | refine opW_i (by first | exact lenSl_sl | exact min_w | exact max_w) ?_ | refine wy ?_ | refine wn ?_ | refine wIf_t rfl ?_ | refine wIf_f rfl ?_ | refine cond_yes rfl ?_ | refine cond_no rfl ?_)
    exact ⟨_, Nat.zero_lt_one, 1, by omega, rfl, rfl, rfl⟩
  · have ey : y = 1 := by omega
    subst ey
    repeat (first | refine opP_i (by first | exact qa | exact qs | exact nilCheck_ptr | exact offPtr_ptr | exact bin_eql | exact bin_neq | exact bin_lss | exact bin_gtr | exact bin_leq | exact bin_geq | exact un_not | exact pick_true | exact pick_false | exact qy | exact qn | exact qi | exact qj) ?_ | refine opW_i (by first | exact lenSl_sl | exact min_w | exact max_w) ?_ | refine wy ?_ | refine wn ?_ | refine wIf_t rfl ?_ | refine wIf_f rfl ?_ | refine cond_yes rfl ?_ | refine cond_no rfl ?_)
    exact hk
/-- a part of a slice -/
theorem slice_both (h : RdB Γ v xs) {i n : Nat} (hn : i + n ≤ xs.length) {mx : Option Value} (hm : mx = none ∨ mx = some (int ((i + n : Nat) : Int))) : ∃ v', sliceSl 1 v (some (int i)) (some (int ((i + n : Nat) : Int))) mx = some v' ∧ Inh v xs v' ((xs.drop i).take n) := by
  have hb : ∀ len : Nat, i + n ≤ len → boundHi len (some (int ((i + n : Nat) : Int))) = some (i + n) := fun len hl => by
    show (match leB 0 ((i + n : Nat) : Int) with | true => (match Nat.ble ((i + n : Nat) : Int).toNat len with | true => some ((i + n : Nat) : Int).toNat | false => none) | false => none) = _
    rw [leB_eq, decide_eq_true (by omega)]
    simp only [Int.toNat_natCast]
    rw [Nat.ble_eq_true_of_le hl]
  have hlo : boundLo (i + n) (some (int (i : Int))) = some i := by
    show (match leB 0 (i : Int) with | true => (match Nat.ble (i : Int).toNat (i + n) with | true => some (i : Int).toNat | false => none) | false => none) = _
    rw [leB_eq, decide_eq_true (by omega)]
    simp only [Int.toNat_natCast]
    rw [Nat.ble_eq_true_of_le (by omega)]
  have hmx : ∃ f, maxOk (i + n) (some (int ((i + n : Nat) : Int))) mx = some f := by
    rcases hm with rfl | rfl
    · exact ⟨false, rfl⟩
    · refine ⟨true, ?_⟩
      show (match leB 0 ((i + n : Nat) : Int) with | true => (match Nat.beq ((i + n : Nat) : Int).toNat (i + n) with | true => some true | false => none) | false => none) = _
      rw [leB_eq, decide_eq_true (by omega)]
      simp only [Int.toNat_natCast, Nat.beq_refl]
  obtain ⟨f, hf⟩ := hmx
  rcases h with ⟨rfl, rfl⟩ | ⟨p, o, c, rfl, hc, _⟩
  · have h0 : i = 0 ∧ n = 0 := by simp at hn; omega
    obtain ⟨rfl, rfl⟩ := h0
    rcases hm with rfl | rfl <;> exact ⟨nilSl, rfl, .none⟩
  · have he : ∃ c', (c' = 2 ∨ c' = 3) ∧ sliceSl 1 (sl p o xs.length c) (some (int i)) (some (int ((i + n : Nat) : Int))) mx = some (sl p (o + i) n c') := by
      generalize int ((i + n : Nat) : Int) = hh at hb hf ⊢
      generalize int (i : Int) = ii at hlo ⊢
      rcases hc with rfl | rfl
      · refine ⟨cond f 3 2, by cases f <;> simp, ?_⟩
        simp [sliceSl, hb _ hn, hlo, hf, reslice]
      · refine ⟨cond (f || Nat.beq (i + n) xs.length) 3 2, by cases f || Nat.beq (i + n) xs.length <;> simp, ?_⟩
        simp [sliceSl, hb _ hn, hlo, hf, reslice]
    obtain ⟨c', hc', he⟩ := he
    refine ⟨_, he, fun Γ' h => ?_⟩
    rcases h with ⟨h, _⟩ | ⟨p', o', c'', heq, _, h⟩
    · cases h
    cases heq
    have hl : ((xs.drop i).take n).length = n := by rw [List.length_take, List.length_drop]; omega
    refine .inr ⟨p, o + i, c', by rw [hl], hc', ?_⟩
    rcases h with rfl | ⟨j, b, h1, h2⟩
    · exact .inl (by simp)
    · refine .inr ⟨j, b, h1, ?_⟩
      have := congrArg (fun l => (List.drop i l).take n) h2
      rw [List.drop_take, List.drop_drop, List.take_take, Nat.min_eq_left (by omega)] at this
      rw [hl, this, by8, by8, List.map_take, List.map_drop]
theorem keep_at {q o n c i : Nat} {cs : List Value} (hO : St H Γ) (hi : Γ[i]? = some (q, ⟨cs, true⟩)) (hn : 0 < n) (hk : K (sl q o n c) H) : opW (keepSl (sl q o n c) H) K := by
  refine opW_i ?_ hk
  have hb : Nat.beq n 0 = false := by
    cases hb : Nat.beq n 0 with
    | false => rfl
    | true => have := Nat.eq_of_beq_eq_true hb; omega
  unfold keepSl
  simp only [hb, hO.at i hi (.inl rfl)]
  have : Heap.mayWrite H q ⟨cs, true⟩ = true := by unfold Heap.mayWrite; rw [hO.fl]; rfl
  rw [this]
/-! a frame's bytes -/
noncomputable def sealB (kind : Nat) (seq : Nat) (body : List Int) : List Int :=
  (([66, 74] ++ [(kind : Int)] ++ leN 8 seq ++ leN 2 body.length) ++ body) ++ leN 4 (crcMore 0 (([66, 74] ++ [(kind : Int)] ++ leN 8 seq ++ leN 2 body.length) ++ body))
theorem leN_by (y n : Nat) : ∀ x ∈ leN y n, 0 ≤ x ∧ x ≤ 255 := by
  intro x hx
  obtain ⟨i, _, rfl⟩ := List.mem_map.1 hx
  have : n / 256 ^ i % 256 < 256 := Nat.mod_lt _ (by omega)
  omega
abbrev By (xs : List Int) : Prop := ∀ x ∈ xs, 0 ≤ x ∧ x ≤ 255
theorem By.app' {xs ys : List Int} (h : By xs) (h2 : By ys) : By (xs ++ ys) := fun x hx => by
  rcases List.mem_append.1 hx with hx | hx
  · exact h x hx
  · exact h2 x hx
theorem head_by {kind seq : Nat} {body : List Int} (hk : kind < 256) (hb : By body) : By (([66, 74] ++ [(kind : Int)] ++ leN 8 seq ++ leN 2 body.length) ++ body) := by
  refine By.app' (By.app' (By.app' (By.app' ?_ ?_) (leN_by _ _)) (leN_by _ _)) hb
  · intro x hx; simp at hx; omega
  · intro x hx; simp at hx; omega
theorem sealB_len {kind seq : Nat} {body : List Int} : (sealB kind seq body).length = 17 + body.length := by
  unfold sealB
  simp [leN_len]; omega
set_option maxHeartbeats 1000000 in
theorem sealed_spec {kind seq : Nat} {body : List Int} (hO : St H Γ) (hv : RdB Γ v body) (hb : By body) (hl : body.length ≤ 4000) (hk8 : kind < 256) (hs : seq < 2 ^ 64) (hk : MadeB Γ K (sealB kind seq body)) : wCall P n_frame_sealed [uint .u8 kind, uint .u64 seq, v] H K := by
  apply frame_sealed_ok; unfold frame_sealed
  refine newSl_at hO (bs46_2 _ _ _ _ _) ?_
  clear hO
  intro q H hO
  refine keep_at hO (i := Γ.length + 0) (at_r rfl) (by omega) ?_
  refine newSl_at hO (bs46_1 _ _ _) ?_
  clear hO
  intro q2 H hO
  refine append_new (ys := [(kind : Int)]) (xs := [66, 74]) (cs := by8 [66, 74]) (v := sl q 0 2 3) hO (.inr ⟨q, .inr ⟨rfl, rfl⟩, rfl, Nat.le_refl _, rfl⟩) (by simp) rfl (.inr rfl) ?_
  clear hO
  intro H v1 c1 hO h1
  refine Fixed_spec (size := 8) hO h1.rd.app' (by simp) hs (by omega) ?_
  clear hO
  intro H v2 c2 hO h2
  replace hO : St H (Γ ++ outB v2 c2) := St.mid hO
  refine opW_i hv.lenSl ?_
  refine opW_i (cvIU (by omega) (by omega)) ?_
  rw [Int.toNat_natCast]
  refine Fixed_spec (size := 2) hO h2.rd.app' (by simp [leN_len]) (by omega) (by omega) ?_
  clear hO
  intro H v3 c3 hO h3
  replace hO : St H (Γ ++ outB v3 c3) := St.mid hO
  obtain ⟨a, n, c, e⟩ := hv.shape
  refine newSl_at hO (show (buildSliceC P 24 1).f [(0, v)] H = some (sl H.next 0 1 3, H.push [v]) by rw [e]; exact bs65_1 _ _ _ _) ?_
  clear hO
  intro q3 H hO
  refine Raw_spec hO h3.rd.app'.app ⟨q3, 3, (Γ ++ outB v3 c3).length + 0, true, rfl, at_r rfl⟩ hv.app.app (by simp [leN_len]; omega) ?_
  clear hO
  intro H v4 c4 hO h4
  replace hO : St H (Γ ++ outB v4 c4) := St.mid (St.mid hO)
  obtain ⟨a, n, c, e4⟩ := h4.rd.shape
  refine newSl_at hO (show (buildSliceC P 24 1).f [(0, v4)] H = some (sl H.next 0 1 3, H.push [v4]) by rw [e4]; exact bs65_1 _ _ _ _) ?_
  clear hO
  intro q4 H hO
  have hby := head_by (seq := seq) hk8 hb
  have hln : (([66, 74] ++ [(kind : Int)] ++ leN 8 seq ++ leN 2 body.length) ++ body).length ≤ 5000 := by simp [leN_len]; omega
  refine crc_Sum_spec hO (jz := (Γ ++ outB v4 c4).length + 0) (at_r rfl) h4.rd.app'.app hby (by omega) ?_
  have hcl : crcMore 0 (([66, 74] ++ [(kind : Int)] ++ leN 8 seq ++ leN 2 body.length) ++ body) < 4294967296 := by unfold crcMore; omega
  refine opW_i (cvU rfl) ?_
  rw [show crcMore 0 (([66, 74] ++ [(kind : Int)] ++ leN 8 seq ++ leN 2 body.length) ++ body) % szU .u64 = crcMore 0 (([66, 74] ++ [(kind : Int)] ++ leN 8 seq ++ leN 2 body.length) ++ body) from Nat.mod_eq_of_lt (by show _ < 2 ^ 64; omega)]
  refine Fixed_spec (size := 4) hO h4.rd.app'.app (by omega) (by omega) (by omega) ?_
  clear hO
  intro H v5 c5 hO h5
  exact hk _ _ _ (St.mid (St.mid hO)) h5
end J
set_option linter.unusedVariables false
set_option linter.unusedSimpArgs false
set_option maxRecDepth 100000
namespace J
open Go Go.Ab
variable {H : Heap} {Γ Γ2 : List (Nat × Blk)} {K : Value → Heap → Prop} {v w x : Value} {xs ys bs : List Int} {j p : Nat} {e : Int}
theorem chunk1_spec [lp : LpC] {l q2 q3 : Nat} {I : Nat → Heap → Prop} (hI : ∀ k H, I k H → ∃ (Γ' : List (Nat × Blk)) (j2 j3 : Nat), St H Γ' ∧ Γ'[j2]? = some (q2, ⟨[v], true⟩) ∧ Γ'[j3]? = some (q3, ⟨[int 63], true⟩) ∧ RdB Γ' v bs) (hx : bs.length ≤ 1000000)
    (hr : ∀ k, 63 * k < bs.length → ∀ H vc, Inh v bs vc ((bs.drop (63 * k)).take 63) → I k H → wT P (.round l [vc] H) fun b H' => b = .bool true ∧ I (k + 1) H')
    (hO : I 0 H) (hk : ∀ H', I ((bs.length + 62) / 63) H' → K (.tuple [].toArray) H') : wCall P n_slices_Chunk_byte_byte_1 [yieldV l, ptr q2 0, ptr q3 0] H K := by
  apply slices_Chunk_byte_byte_1_ok; unfold slices_Chunk_byte_byte_1
  refine slices_Chunk_byte_byte_1_L0_ind (fun k l' H' => ∃ y : Nat, y ≤ (bs.length + 62) / 63 ∧ k = (bs.length + 62) / 63 - y ∧ l' = [yieldV l, ptr q2 0, ptr q3 0, int ((63 * y : Nat) : Int)] ∧ I y H') _ _ ?_ ((bs.length + 62) / 63) _ _ ⟨0, by omega, rfl, rfl, hO⟩
  clear hO
  rintro k l' H ⟨y, hy, rfl, rfl, hO⟩
  unfold slices_Chunk_byte_byte_1_L0
  try simp only [nth_zero, nth_succ]
  obtain ⟨Γ', j2, j3, hS, h2, h3, hv⟩ := hI y H hO
  refine load_at hS j2 h2 rfl ?_
  refine opW_i hv.lenSl ?_
  refine opP_i bin_lss ?_
  refine wIf_dec (fun h => ?_) (fun h => ?_)
  · have hyl : 63 * y < bs.length := by omega
    refine load_at hS j3 h3 rfl ?_
    refine load_at hS j2 h2 rfl ?_
    obtain ⟨v1, e1, r1⟩ := slice_lo hv (show 63 * y ≤ bs.length by omega)
    refine opP_i e1 ?_
    refine opW_i (r1 _ hv).lenSl ?_
    refine opW_i min_w ?_
    refine load_at hS j2 h2 rfl ?_
    have hm : min (63 : Int) ((bs.drop (63 * y)).length : Int) = ((min 63 (bs.length - 63 * y) : Nat) : Int) := by rw [List.length_drop]; omega
    rw [hm]
    have hn : 63 * y + min 63 (bs.length - 63 * y) ≤ bs.length := by omega
    refine opP_i (v := int ((63 * y + min 63 (bs.length - 63 * y) : Nat) : Int)) (by rw [bin_addi (by omega) (by omega)]; congr 2) ?_
    refine opP_i (v := int ((63 * y + min 63 (bs.length - 63 * y) : Nat) : Int)) (by rw [bin_addi (by omega) (by omega)]; congr 2) ?_
    obtain ⟨vc, e2, r2⟩ := slice_both hv hn (mx := some (int ((63 * y + min 63 (bs.length - 63 * y) : Nat) : Int))) (.inr rfl)
    refine opP_i e2 ?_
    have e3 : (bs.drop (63 * y)).take (min 63 (bs.length - 63 * y)) = (bs.drop (63 * y)).take 63 := by
      by_cases h5 : 63 ≤ bs.length - 63 * y
      · rw [Nat.min_eq_left h5]
      · rw [Nat.min_eq_right (by omega), List.take_of_length_le (by rw [List.length_drop]; omega), List.take_of_length_le (by rw [List.length_drop]; omega)]
    rw [e3] at r2
    refine yield_at (wT_mono (hr y hyl H vc r2 hO) ?_)
    rintro b2 H2 ⟨rfl, hO2⟩
    obtain ⟨Γ3, k2, k3, hS3, h23, h33, _⟩ := hI (y + 1) H2 hO2
    refine opP_i un_not ?_
    refine wIf_f rfl ?_
    refine load_at hS3 k3 h33 rfl ?_
    refine opP_i (v := int ((63 * (y + 1) : Nat) : Int)) (by rw [bin_addi (by omega) (by omega)]; congr 2) ?_
    exact ⟨_, by omega, y + 1, by omega, rfl, rfl, hO2⟩
  · have ey : y = (bs.length + 62) / 63 := by omega
    subst ey
    refine cond_yes rfl ?_
    exact hk _ hO
/-! sectors of bytes -/
def padS (c : List Int) : List Int := c ++ (List.replicate (63 - c.length) 255 ++ [0])
def nCh (n : Nat) : Nat := (n + 62) / 63
def chunkS (b : List Int) : List (List Int) := (List.range (nCh b.length)).map fun k => padS ((b.drop (63 * k)).take 63)
def secC (l : List (List Int)) : List Value := l.flatMap by8
abbrev MadeS (Γ : List (Nat × Blk)) (K : Value → Heap → Prop) (l : List (List Int)) : Prop := ∀ (H' : Heap) (v' : Value), St H' (Γ ++ outB v' (secC l)) → Own 64 v' l.length (secC l) → K v' H'
theorem padS_len {c : List Int} (h : c.length ≤ 63) : (padS c).length = 64 := by simp [padS]; omega
theorem chunkS_len (b : List Int) : (chunkS b).length = nCh b.length := by simp [chunkS]
theorem chunkS_ok {b : List Int} : ∀ s ∈ chunkS b, s.length = 64 := by
  intro s hs
  obtain ⟨k, _, rfl⟩ := List.mem_map.1 hs
  exact padS_len (by rw [List.length_take]; omega)
theorem chunkS_take {b : List Int} {k : Nat} (h : k < nCh b.length) : (chunkS b).take (k + 1) = (chunkS b).take k ++ [padS ((b.drop (63 * k)).take 63)] := by
  rw [List.take_succ_eq_append_getElem (by rw [chunkS_len]; exact h)]
  congr 2
  simp [chunkS]
theorem set_pad {c : List Int} (h : c.length ≤ 63) : ((by8 blank).take 0 ++ (by8 c ++ (by8 blank).drop (0 + c.length))).set 63 (.int .u8 0) = by8 (padS c) := by
  have e : (by8 blank).drop (0 + c.length) = by8 (List.replicate (63 - c.length) 255) ++ [.int .u8 255] := by
    simp only [by8, blank, List.map_replicate, List.drop_replicate, Nat.zero_add]
    rw [show 64 - c.length = (63 - c.length) + 1 by omega, List.replicate_succ']
  rw [e, List.take_zero, List.nil_append, ← List.append_assoc, List.set_append_right _ _ (by simp; omega)]
  have e2 : 63 - (by8 c ++ by8 (List.replicate (63 - c.length) 255)).length = 0 := by simp; omega
  rw [e2]
  simp [padS, by8]
theorem bsSec' (g : Nat → Int) (H : Heap) : (buildSliceC P 61 1).f [(0, sec ((List.range 64).map g))] H = some (sl H.next 0 1 129, H.push (by8 ((List.range 64).map g))) := by kernel_rfl
theorem bsSec {s : List Int} (h : s.length = 64) (H : Heap) : (buildSliceC P 61 1).f [(0, sec s)] H = some (sl H.next 0 1 129, H.push (by8 s)) := by
  obtain ⟨g, rfl⟩ := sec_fn h
  exact bsSec' g H
theorem zcSs : zc P 61 = [nilSl] := by kernel_rfl
theorem put_body [lp : LpC] {q7 n : Nat} {vo vc : Value} {cs : List Value} {c : List Int} {X : Heap → Prop} (hO : St H ((Γ2 ++ [(q7, ⟨[vo], true⟩)]) ++ outB vo cs)) (hv : Own 64 vo n cs) (hc : RdB Γ2 vc c) (hl : c.length ≤ 63) (hn : n ≤ 1000000)
    (hk : ∀ H' vo', St H' ((Γ2 ++ [(q7, ⟨[vo'], true⟩)]) ++ outB vo' (cs ++ by8 (padS c))) → Own 64 vo' (n + 1) (cs ++ by8 (padS c)) → X H') :
    wCall P n_flash_Blank [] H fun t19 H2 =>
    wNew (zc P 75) H2 fun t9 H4 =>
    opW (storeTo 64 t9 t19 H4) fun u H6 =>
    opP (sliceArr 64 1 t9 none none none H6) fun t20 =>
    opW (copyTo 1 t20 vc H6) fun t22 H9 =>
    opP (idxPtr 64 1 t9 (.int .i64 63)) fun t23 =>
    opW (storeTo 1 t23 (.int .u8 0) H9) fun u_1 H12 =>
    opW (loadOne (ptr q7 0) H12) fun t24 H14 =>
    opW (loadAgg 64 t9 H14) fun t25 H16 =>
    opW ((buildSliceC P 61 1).f [(0, t25)] H16) fun t26 H18 =>
    opW (appendWith 64 64 t24 t26 H18) fun t27 H20 =>
    opW (storeTo 1 (ptr q7 0) t27 H20) fun u_2 H22 => X H22 := by
  refine Blank_spec hO ?_
  clear hO
  intro H hO
  rw [zcS]
  refine new_at hO ?_
  clear hO
  intro p9 H hO
  refine storeAll_at hO (((Γ2 ++ [(q7, (⟨[vo], true⟩ : Blk))]) ++ outB vo cs).length + 0) (at_r rfl) (by rw [by8_len]; rfl) (by rw [by8_len]; rfl) (by8_one _) ?_
  clear hO
  intro H hO
  replace hO : St H (((Γ2 ++ [(q7, ⟨[vo], true⟩)]) ++ outB vo cs) ++ [(p9, ⟨by8 blank, true⟩)]) := hO.set_r
  refine opP_i (slice_arr (n := 64) hO (((Γ2 ++ [(q7, (⟨[vo], true⟩ : Blk))]) ++ outB vo cs).length + 0) (at_r rfl) (by omega) (by show _ ≤ (by8 blank).length; rw [by8_len]; decide)) ?_
  refine copy_by hO (i := ((Γ2 ++ [(q7, (⟨[vo], true⟩ : Blk))]) ++ outB vo cs).length + 0) (at_r rfl) hc.app.app.app (by omega) (by rw [by8_len]; decide) ?_
  clear hO
  intro H hO
  replace hO : St H (((Γ2 ++ [(q7, ⟨[vo], true⟩)]) ++ outB vo cs) ++ [(p9, ⟨(by8 blank).take 0 ++ (by8 c ++ (by8 blank).drop (0 + c.length)), true⟩)]) := hO.set_r
  refine opP_i (idxPtr_ok (by omega) (by omega)) ?_
  have hlen : ((by8 blank).take 0 ++ (by8 c ++ (by8 blank).drop (0 + c.length))).length = 64 := by
    rw [List.take_zero, List.nil_append, List.length_append, List.length_drop, by8_len, by8_len, show blank.length = 64 from rfl]; omega
  refine store1_at hO (((Γ2 ++ [(q7, (⟨[vo], true⟩ : Blk))]) ++ outB vo cs).length + 0) (at_r rfl) rfl (by rw [hlen]; decide) (set_pad hl) ?_
  clear hO
  intro H hO
  replace hO : St H (((Γ2 ++ [(q7, ⟨[vo], true⟩)]) ++ outB vo cs) ++ [(p9, ⟨by8 (padS c), true⟩)]) := hO.set_r
  have hpl := padS_len hl
  refine load_at hO (Γ2.length + 0) (at_l (at_l (at_r rfl))) rfl ?_
  refine loadAll_at hO (((Γ2 ++ [(q7, (⟨[vo], true⟩ : Blk))]) ++ outB vo cs).length + 0) (at_r rfl) (by rw [by8_len]; exact hpl) (by omega) ?_
  replace hO := hO.left
  refine newSl_at hO (bsSec hpl _) ?_
  clear hO
  intro q H hO
  refine append_elem hO hv (by rw [by8_len]; exact hpl) (by omega) (by8_one _) (by omega) (by omega) ?_
  clear hO
  intro vo' H hO hv'
  obtain ⟨a1, n1, c1, e1⟩ : ∃ a1 n1 c1, vo' = .slice a1 n1 c1 := by rcases hv' with ⟨_, h, _⟩ | ⟨p, rfl | rfl, _⟩; omega; exact ⟨_, _, _, rfl⟩; exact ⟨_, _, _, rfl⟩
  refine store1_at hO (Γ2.length + 0) (at_l (at_r rfl)) (by rw [e1]; rfl) (show 0 < 1 by omega) rfl ?_
  clear hO
  intro H hO
  rw [List.set_append_left _ _ (by simp), Go.Ab.set_r] at hO
  exact hk H vo' hO hv'
noncomputable def fPut (kind seq : Nat) (body : List Int) : List (List Int) := if 4000 < body.length then [] else chunkS (sealB kind seq body)
set_option maxHeartbeats 2000000 in
theorem Put_spec {kind seq : Nat} {body : List Int} (hO : St H Γ) (hv : RdB Γ v body) (hb : By body) (hk8 : kind < 256) (hs : seq < 2 ^ 64) (hk : MadeS Γ K (fPut kind seq body)) : wCall P n_frame_Put [uint .u8 kind, uint .u64 seq, v] H K := by
  apply frame_Put_ok; unfold frame_Put
  refine opW_i hv.lenSl ?_
  refine opP_i bin_gtr ?_
  unfold fPut at hk
  refine wIf_dec (fun h => ?_) (fun h => ?_)
  · rw [if_pos (by omega)] at hk
    refine hk H nilSl ?_ (.inl ⟨rfl, rfl, rfl⟩)
    show St H (Γ ++ [])
    rw [List.append_nil]; exact hO
  rw [if_neg (by omega)] at hk
  rw [zcSs]
  refine new_at hO ?_
  clear hO
  intro q7 H hO
  refine sealed_spec hO hv.app hb (by omega) hk8 hs ?_
  clear hO
  have hsl := sealB_len (kind := kind) (seq := seq) (body := body)
  generalize sealB kind seq body = bs at *
  intro H v16 c16 hO h16
  replace hO := hO.rot
  apply slices_Chunk_byte_byte_ok
  unfold slices_Chunk_byte_byte
  refine new_at hO ?_
  clear hO
  intro q2 H hO
  refine new_at hO ?_
  clear hO
  intro q3 H9 hO
  obtain ⟨a1, n1, c1, e1⟩ := RdB.shape h16.rd
  have hc1 : cellsL v16 = [v16] := by rw [e1]; rfl
  rw [hc1] at hO
  refine load_at hO ((((Γ ++ outB v16 c16) ++ [(q7, (⟨[nilSl], true⟩ : Blk))]) ++ [(q2, (⟨[v16], true⟩ : Blk))]).length + 0) (at_r rfl) rfl ?_
  refine opP_i bin_lss ?_
  refine wIf_f rfl ?_
  have hO2 : St H9 ((((Γ ++ outB v16 c16) ++ [(q2, ⟨[v16], true⟩), (q3, ⟨[int 63], true⟩)]) ++ [(q7, ⟨[nilSl], true⟩)]) ++ outB nilSl (secC ((chunkS bs).take 0))) := by
    show St H9 ((((Γ ++ outB v16 c16) ++ [(q2, ⟨[v16], true⟩), (q3, ⟨[int 63], true⟩)]) ++ [(q7, ⟨[nilSl], true⟩)]) ++ [])
    rw [List.append_nil]
    have h5 : St H9 (((Γ ++ outB v16 c16) ++ [(q7, ⟨[nilSl], true⟩)]) ++ [(q2, ⟨[v16], true⟩), (q3, ⟨[int 63], true⟩)]) := by
      rw [List.append_assoc (_ ++ [(q7, _)])] at hO; exact hO
    exact h5.rot
  have r2 : ∀ Δ, RdB (((Γ ++ outB v16 c16) ++ [(q2, (⟨[v16], true⟩ : Blk)), (q3, ⟨[int 63], true⟩)]) ++ Δ) v16 bs := fun Δ => h16.rd.app'.app.app
  refine range_at (L := lp0) hO2 (f := n_slices_Chunk_byte_byte_1) (args := [yieldV (Nat.succ H9.next), ptr q2 0, ptr q3 0]) rfl ?_
  intro T hT hag H0 hO0
  generalize hL : lpc (Nat.succ H9.next) _ lp0 = L at hO0
  refine chunk1_spec (lp := L) (l := Nat.succ H9.next) (v := v16) (bs := bs) (I := fun k H' => ∃ vo, @St L H' ((((Γ ++ outB v16 c16) ++ [(q2, ⟨[v16], true⟩), (q3, ⟨[int 63], true⟩)]) ++ [(q7, ⟨[vo], true⟩)]) ++ outB vo (secC ((chunkS bs).take k))) ∧ Own 64 vo (min k (nCh bs.length)) (secC ((chunkS bs).take k))) ?_ (by omega) ?_ ⟨nilSl, hO0, .inl ⟨rfl, by omega, rfl⟩⟩ ?_
  · rintro k H' ⟨vo, h1, h2⟩
    exact ⟨_, _, _, h1, at_l (at_l (at_r (k := 0) rfl)), at_l (at_l (at_r (k := 1) rfl)), by rw [List.append_assoc]; exact r2 _⟩
  · rintro k hkl H vc hvc ⟨vo, hOm, hvo⟩
    subst hL
    have hkn : k < nCh bs.length := by unfold nCh; omega
    have hl63 : ((bs.drop (63 * k)).take 63).length ≤ 63 := by rw [List.length_take]; omega
    refine round_at (n := 29) hOm hT hag rfl (by decide) ?_
    rw [frame_Put_R0_eq]
    unfold frame_Put_R0
    refine wBegin_at hOm ?_
    intro H2 hO2
    rw [Nat.min_eq_left (by omega)] at hvo
    refine put_body (lp := lpc (Nat.succ H9.next) _ lp0) hO2 hvo (hvc _ (by have := r2 []; rw [List.append_nil] at this; exact this)) hl63 (by have : nCh bs.length ≤ bs.length + 62 := Nat.div_le_self _ _; omega) ?_
    intro H3 vo' hO3 hvo'
    have e4 : secC ((chunkS bs).take k) ++ by8 (padS ((bs.drop (63 * k)).take 63)) = secC ((chunkS bs).take (k + 1)) := by
      rw [chunkS_take hkn]; simp [secC]
    rw [e4] at hO3 hvo'
    refine wEnd_at hO3 ?_
    intro H4 hO4
    refine ⟨rfl, vo', hO4, ?_⟩
    rw [Nat.min_eq_left (by omega)]
    exact hvo'
  · rintro H2 ⟨vo, hO2, hvo⟩
    subst hL
    refine ⟨.ready, _, by simp, hO2, ?_⟩
    intro H3 hO3
    show opW _ _
    have e5 : (chunkS bs).take ((bs.length + 62) / 63) = chunkS bs := List.take_of_length_le (by rw [chunkS_len]; exact Nat.le_refl _)
    rw [e5] at hO3 hvo
    refine load_at hO3 (((Γ ++ outB v16 c16) ++ [(q2, (⟨[v16], true⟩ : Blk)), (q3, ⟨[int 63], true⟩)]).length + 0) (at_l (at_r rfl)) rfl ?_
    refine hk _ vo ?_ ?_
    · exact hO3.sub (List.Sublist.append (by rw [List.append_assoc, List.append_assoc]; exact List.sublist_append_left _ _) (List.Sublist.refl _))
    · rw [chunkS_len]
      have e6 : min ((bs.length + 62) / 63) (nCh bs.length) = nCh bs.length := Nat.min_self _
      rw [e6] at hvo
      exact hvo
end J
set_option linter.unusedVariables false
set_option linter.unusedSimpArgs false
set_option maxRecDepth 100000
namespace J
open Go Go.Ab
variable {H : Heap} {Γ Γ2 : List (Nat × Blk)} {K : Value → Heap → Prop} {v w x : Value} {xs ys bs : List Int} {j p : Nat} {e : Int} {ss tt : List (List Int)}
/-! slices of sectors -/
abbrev S64 (ss : List (List Int)) : Prop := ∀ s ∈ ss, s.length = 64
def RdS (Γ : List (Nat × Blk)) (v : Value) (ss : List (List Int)) : Prop :=
  (v = nilSl ∧ ss = []) ∨ ∃ p o c, v = sl p o ss.length c ∧ (c = 128 ∨ c = 129) ∧ (ss = [] ∨ ∃ (j : Nat) (b : Blk), Γ[j]? = some (p, b) ∧ (b.cells.drop o).take (ss.length * 64) = secC ss)
theorem RdS.lenSl (h : RdS Γ v ss) : Ab.lenSl v H = some (int ss.length, H) := by
  rcases h with ⟨rfl, rfl⟩ | ⟨p, o, c, rfl, _⟩ <;> rfl
theorem RdS.app {Δ : List (Nat × Blk)} (h : RdS Γ v ss) : RdS (Γ ++ Δ) v ss := by
  rcases h with h | ⟨p, o, c, h1, h2, h3 | ⟨j, b, h3, h4⟩⟩
  · exact .inl h
  · exact .inr ⟨p, o, c, h1, h2, .inl h3⟩
  · exact .inr ⟨p, o, c, h1, h2, .inr ⟨j, b, at_l h3, h4⟩⟩
theorem RdS.app' {Δ : List (Nat × Blk)} (h : RdS Δ v ss) : RdS (Γ ++ Δ) v ss := by
  rcases h with h | ⟨p, o, c, h1, h2, h3 | ⟨j, b, h3, h4⟩⟩
  · exact .inl h
  · exact .inr ⟨p, o, c, h1, h2, .inl h3⟩
  · exact .inr ⟨p, o, c, h1, h2, .inr ⟨Γ.length + j, b, at_r h3, h4⟩⟩
theorem RdS.own (h : Own 64 v ss.length (secC ss)) : RdS (outB v (secC ss)) v ss := by
  rcases h with ⟨rfl, h0, _⟩ | ⟨p, rfl | rfl, hl⟩
  · exact .inl ⟨rfl, List.length_eq_zero_iff.1 h0⟩
  · exact .inr ⟨p, 0, 128, rfl, .inl rfl, .inr ⟨0, ⟨secC ss, true⟩, rfl, by rw [List.drop_zero]; exact List.take_of_length_le (Nat.le_of_eq hl)⟩⟩
  · exact .inr ⟨p, 0, 129, rfl, .inr rfl, .inr ⟨0, ⟨secC ss, true⟩, rfl, by rw [List.drop_zero]; exact List.take_of_length_le (Nat.le_of_eq hl)⟩⟩
theorem secC_len (h : S64 ss) : (secC ss).length = ss.length * 64 := flat_len fun s hs => by rw [by8_len]; exact h s hs
theorem RdS.at (hs : S64 ss) (h : RdS Γ v ss) {i : Nat} (hi : i < ss.length) : ∃ (p o c j : Nat) (b : Blk), v = sl p o ss.length c ∧ Γ[j]? = some (p, b) ∧ (b.cells.drop (o + i * 64)).take 64 = by8 ss[i] ∧ o + i * 64 + 64 ≤ b.cells.length := by
  rcases h with ⟨rfl, rfl⟩ | ⟨p, o, c, rfl, _, rfl | ⟨j, b, h3, h4⟩⟩
  · simp at hi
  · simp at hi
  · refine ⟨p, o, c, j, b, rfl, h3, ?_, ?_⟩
    · have h5 := flat_at (f := by8) (o := 0) (m := 64) (fun s hs' => by rw [by8_len]; exact hs s hs') hi (by omega)
      have h6 : (((b.cells.drop o).take (ss.length * 64)).drop (i * 64 + 0)).take 64 = (((secC ss)).drop (i * 64 + 0)).take 64 := by rw [h4]
      rw [List.drop_take, List.drop_drop, List.take_take, Nat.min_eq_left (by omega), Nat.add_zero] at h6
      rw [h6]
      rw [Nat.add_zero] at h5
      refine h5.trans ?_
      rw [List.drop_zero]
      exact List.take_of_length_le (by rw [by8_len, hs _ (List.getElem_mem hi)]; exact Nat.le_refl _)
    · have h7 := congrArg List.length h4
      rw [List.length_take, List.length_drop, secC_len hs] at h7
      omega
abbrev InhS (v : Value) (ss : List (List Int)) (v' : Value) (tt : List (List Int)) : Prop := ∀ Γ' : List (Nat × Blk), RdS Γ' v ss → RdS Γ' v' tt
theorem InhS.none {v : Value} {ss : List (List Int)} : InhS v ss nilSl [] := fun _ _ => .inl ⟨rfl, rfl⟩
theorem hi_some {len n : Nat} (h : n ≤ len) : boundHi len (some (int (n : Int))) = some n := by
  show (match leB 0 (n : Int) with | true => (match Nat.ble (n : Int).toNat len with | true => some (n : Int).toNat | false => none) | false => none) = _
  rw [leB_eq, decide_eq_true (by omega)]
  simp only [Int.toNat_natCast]
  rw [Nat.ble_eq_true_of_le h]
theorem lo_some {len n : Nat} (h : n ≤ len) : boundLo len (some (int (n : Int))) = some n := by
  show (match leB 0 (n : Int) with | true => (match Nat.ble (n : Int).toNat len with | true => some (n : Int).toNat | false => none) | false => none) = _
  rw [leB_eq, decide_eq_true (by omega)]
  simp only [Int.toNat_natCast]
  rw [Nat.ble_eq_true_of_le h]
theorem sliceS_hi (hs : S64 ss) (h : RdS Γ v ss) {n : Nat} (hn : n ≤ ss.length) : ∃ v', sliceSl 64 v none (some (int n)) none = some v' ∧ InhS v ss v' (ss.take n) := by
  rcases h with ⟨rfl, rfl⟩ | ⟨p, o, c, rfl, hc, _⟩
  · have : n = 0 := by simpa using hn
    subst this
    exact ⟨nilSl, rfl, .none⟩
  · have he : ∃ c', (c' = 128 ∨ c' = 129) ∧ sliceSl 64 (sl p o ss.length c) none (some (int n)) none = some (sl p o n c') := by
      have hh := hi_some hn
      generalize int (n : Int) = hv at hh ⊢
      rcases hc with rfl | rfl
      · exact ⟨128, .inl rfl, by simp [sliceSl, hh, boundLo, maxOk, reslice]⟩
      · exact ⟨cond (Nat.beq n ss.length) 129 128, by cases Nat.beq n ss.length <;> simp, by simp [sliceSl, hh, boundLo, maxOk, reslice]⟩
    obtain ⟨c', hc', he⟩ := he
    refine ⟨_, he, fun Γ' h => ?_⟩
    rcases h with ⟨h, _⟩ | ⟨p', o', c'', heq, _, h⟩
    · cases h
    cases heq
    have hl : (ss.take n).length = n := by rw [List.length_take]; omega
    refine .inr ⟨p, o, c', by rw [hl], hc', ?_⟩
    rcases h with rfl | ⟨j, b, h1, h2⟩
    · exact .inl (by simp)
    · refine .inr ⟨j, b, h1, ?_⟩
      have h3 : ((b.cells.drop o).take (ss.length * 64)).take (n * 64) = (secC ss).take (n * 64) := by rw [h2]
      rw [List.take_take, Nat.min_eq_left (by omega)] at h3
      rw [hl, h3]
      have h4 : secC ss = secC (ss.take n) ++ secC (ss.drop n) := by unfold secC; rw [← List.flatMap_append, List.take_append_drop]
      rw [h4, List.take_left' (by rw [secC_len (fun s h => hs s (List.mem_of_mem_take h)), hl])]
theorem sliceS_lo (hs : S64 ss) (h : RdS Γ v ss) {n : Nat} (hn : n ≤ ss.length) : ∃ v', sliceSl 64 v (some (int n)) none none = some v' ∧ InhS v ss v' (ss.drop n) := by
  rcases h with ⟨rfl, rfl⟩ | ⟨p, o, c, rfl, hc, _⟩
  · have : n = 0 := by simpa using hn
    subst this
    exact ⟨nilSl, rfl, .none⟩
  · have he : ∃ c', (c' = 128 ∨ c' = 129) ∧ sliceSl 64 (sl p o ss.length c) (some (int n)) none none = some (sl p (o + n * 64) (ss.length - n) c') := by
      have hh := lo_some hn
      generalize int (n : Int) = hv at hh ⊢
      rcases hc with rfl | rfl
      · exact ⟨128, .inl rfl, by simp [sliceSl, hh, boundHi, maxOk, reslice]⟩
      · exact ⟨129, .inr rfl, by simp [sliceSl, hh, boundHi, maxOk, reslice]⟩
    obtain ⟨c', hc', he⟩ := he
    refine ⟨_, he, fun Γ' h => ?_⟩
    rcases h with ⟨h, _⟩ | ⟨p', o', c'', heq, _, h⟩
    · cases h
    cases heq
    have hl : (ss.drop n).length = ss.length - n := by rw [List.length_drop]
    refine .inr ⟨p, o + n * 64, c', by rw [hl], hc', ?_⟩
    rcases h with rfl | ⟨j, b, h1, h2⟩
    · exact .inl (by simp)
    · refine .inr ⟨j, b, h1, ?_⟩
      have h3 : ((b.cells.drop o).take (ss.length * 64)).drop (n * 64) = (secC ss).drop (n * 64) := by rw [h2]
      rw [List.drop_take, List.drop_drop] at h3
      rw [hl, Nat.sub_mul, h3]
      have h4 : secC ss = secC (ss.take n) ++ secC (ss.drop n) := by unfold secC; rw [← List.flatMap_append, List.take_append_drop]
      rw [h4, List.drop_left' (by rw [secC_len (fun s h => hs s (List.mem_of_mem_take h)), List.length_take, Nat.min_eq_left hn])]
theorem secAt {K : Value → Heap → Prop} (hO : St H Γ) (hs : S64 ss) (h : RdS Γ v ss) {i : Nat} (hi : i < ss.length) (hk : K (sec ss[i]) H) : opP (idxSl 64 v (int i)) fun t => opW (loadAgg 64 t H) K := by
  obtain ⟨p, o, c, j, b, rfl, h1, h2, h3⟩ := RdS.at hs h hi
  refine opP_i (idxSl_ok (by omega) (by omega)) ?_
  rw [Int.toNat_natCast]
  exact loadAgg_at hO j h1 h2 (by rw [by8_len]; exact hs _ (List.getElem_mem hi)) (by omega) hk
/-! the same sectors? -/
theorem Equal_spec (hO : St H Γ) (hs : S64 ss) (ht : S64 tt) (h1 : RdS Γ v ss) (h2 : RdS Γ w tt) (hl : ss.length ≤ 1000000) (hk : K (.bool (decide (ss = tt))) H) : wCall P n_slices_Equal_api_Sector_api_Sector [v, w] H K := by
  apply slices_Equal_api_Sector_api_Sector_ok; unfold slices_Equal_api_Sector_api_Sector
  refine opW_i h1.lenSl ?_
  refine opW_i h2.lenSl ?_
  refine opP_i bin_neq ?_
  refine wIf_dec (fun h => ?_) (fun h => ?_)
  · rw [decide_eq_false (fun h' => by subst h'; omega)] at hk
    exact hk
  have hlt : tt.length = ss.length := by omega
  refine opW_i h1.lenSl ?_
  refine slices_Equal_api_Sector_api_Sector_L0_ind (fun k l' H' => ∃ y : Nat, y ≤ ss.length ∧ k = ss.length - y ∧ l' = [v, w, .bool false, int ss.length, int y] ∧ H' = H ∧ ss.take y = tt.take y) _ _ ?_ ss.length _ _ ⟨0, by omega, rfl, rfl, rfl, rfl⟩
  rintro k l' H' ⟨y, hy, rfl, rfl, rfl, he⟩
  unfold slices_Equal_api_Sector_api_Sector_L0
  try simp only [nth_zero, nth_succ]
  refine opP_i bin_lss ?_
  refine wIf_dec (fun h3 => ?_) (fun h3 => ?_)
  · have hyl : y < ss.length := by omega
    refine secAt hO hs h1 hyl ?_
    refine secAt hO ht h2 (i := y) (by omega) ?_
    refine opP_i (neS _ (hs _ (List.getElem_mem _)) (ht _ (List.getElem_mem _))) ?_
    refine wIf_dec (fun h4 => ?_) (fun h4 => ?_)
    · rw [decide_eq_false (fun h' => by subst h'; exact h4 rfl)] at hk
      exact hk
    · repeat (first | refine opP_i (by first | exact qa | exact qs | exact nilCheck_ptr | exact offPtr_ptr | exact bin_eql | exact bin_neq | exact bin_lss | exact bin_gtr | exact bin_leq | exact bin_geq | exact un_not | exact pick_true | exact pick_false | exact qy | exact qn | exact qi | exact qj) ?_ | refine opW_i (by first | exact lenSl_sl | exact min_w | exact max_w) ?_ | refine wy ?_ | refine wn ?_ | refine wIf_t rfl ?_ | refine wIf_f rfl ?_ | refine cond_yes rfl ?_ | refine cond_no rfl ?_)
      refine ⟨_, by omega, y + 1, by omega, rfl, rfl, rfl, ?_⟩
      rw [List.take_succ_eq_append_getElem hyl, List.take_succ_eq_append_getElem (by omega), he, Decidable.not_not.1 h4]
  · have ey : y = ss.length := by omega
    subst ey
    rw [List.take_length, ← hlt, List.take_length] at he
    refine cond_yes rfl ?_
    rw [decide_eq_true he] at hk
    exact hk
/-! the bytes of sectors -/
def plainS (ss : List (List Int)) : List Int := ss.flatMap fun s => s.take 63
theorem plainS_len (h : S64 ss) : (plainS ss).length = ss.length * 63 := by
  induction ss with
  | nil => rfl
  | cons s ss ih =>
    show (s.take 63 ++ plainS ss).length = _
    rw [List.length_append, ih (fun x hx => h x (List.mem_cons_of_mem _ hx)), List.length_take, h s List.mem_cons_self, List.length_cons]; omega
theorem plain_spec (hO : St H Γ) (hs : S64 ss) (h1 : RdS Γ v ss) (hl : ss.length ≤ 1000000) (hk : MadeB Γ K (plainS ss)) : wCall P n_frame_plain [v] H K := by
  apply frame_plain_ok; unfold frame_plain
  refine opW_i h1.lenSl ?_
  refine frame_plain_L0_ind (fun k l' H' => ∃ (y : Nat) (v' : Value) (cs' : List Value), y ≤ ss.length ∧ k = ss.length - y ∧ l' = [nilSl, v', v, int ss.length, int y] ∧ St H' (Γ ++ outB v' cs') ∧ OwnB v' (plainS (ss.take y)) cs') _ _ ?_ ss.length _ _ ⟨0, nilSl, [], by omega, rfl, rfl, by show St H (Γ ++ []); rw [List.append_nil]; exact hO, .nil⟩
  clear hO
  rintro k l' H ⟨y, v', cs', hy, rfl, rfl, hO, hv'⟩
  unfold frame_plain_L0
  try simp only [nth_zero, nth_succ]
  refine opP_i bin_lss ?_
  refine wIf_dec (fun h3 => ?_) (fun h3 => ?_)
  · have hyl : y < ss.length := by omega
    have hsl := hs _ (List.getElem_mem hyl)
    refine secAt hO hs h1.app hyl ?_
    rw [zcS]
    refine new_at hO ?_
    clear hO
    intro p5 H hO
    refine storeAll_at hO ((Γ ++ outB v' cs').length + 0) (at_r rfl) (by rw [by8_len]; rfl) (by rw [by8_len]; exact hsl) (by8_one _) ?_
    clear hO
    intro H hO
    replace hO := St.rot hO.set_r
    replace hO : St H ((Γ ++ [(p5, ⟨by8 ss[y], true⟩)]) ++ outB v' cs') := hO
    obtain ⟨c1, e1, hc1⟩ := slice_arrh (n := 64) (p := p5) (o := 0) (h := 63) (b := ⟨by8 ss[y], true⟩) hO (Γ.length + 0) (at_l (at_r rfl)) (by omega) (by show _ ≤ (by8 ss[y]).length; rw [by8_len, hsl]; decide) (by omega) (by omega)
    refine opP_i e1 ?_
    have hr : RdB (Γ ++ [(p5, (⟨by8 ss[y], true⟩ : Blk))]) (sl p5 0 (63 : Int).toNat c1) (ss[y].take 63) := by
      refine .inr ⟨p5, 0, c1, ?_, hc1, .inr ⟨Γ.length + 0, ⟨by8 ss[y], true⟩, at_r rfl, ?_⟩⟩
      · rw [List.length_take, hsl]; rfl
      · rw [List.drop_zero, List.length_take, hsl]
        simp [by8, List.map_take]
    have hpl := plainS_len (ss := ss.take y) (fun s h => hs s (List.mem_of_mem_take h))
    rw [List.length_take, Nat.min_eq_left hy] at hpl
    refine append_by hO hv' hr (by rw [hpl, List.length_take]; omega) ?_
    clear hO
    intro H v2 c2 hO h2
    repeat (first | refine opP_i (by first | exact qa | exact qs | exact nilCheck_ptr | exact offPtr_ptr | exact bin_eql | exact bin_neq | exact bin_lss | exact bin_gtr | exact bin_leq | exact bin_geq | exact un_not | exact pick_true | exact pick_false | exact qy | exact qn | exact qi | exact qj) ?_ | refine opW_i (by first | exact lenSl_sl | exact min_w | exact max_w) ?_ | refine wy ?_ | refine wn ?_ | refine wIf_t rfl ?_ | refine wIf_f rfl ?_ | refine cond_yes rfl ?_ | refine cond_no rfl ?_)
    refine ⟨_, by omega, y + 1, v2, c2, by omega, rfl, rfl, St.mid hO, ?_⟩
    rw [List.take_succ_eq_append_getElem hyl]
    unfold plainS
    rw [List.flatMap_append]
    show OwnB v2 (_ ++ (ss[y].take 63 ++ [])) c2
    rw [List.append_nil]
    exact h2
  · have ey : y = ss.length := by omega
    subst ey
    rw [List.take_length] at hv'
    refine cond_yes rfl ?_
    exact hk _ _ _ hO hv'
/-! how many sectors -/
def fSize (n : Int) : Nat := if n < 0 ∨ 4000 < n then 0 else (n.toNat + 79) / 63
theorem bin_quo63 {a : Nat} (h : a ≤ 1000000) : (binC P .quo 3 true).f (int a) (.int .i64 63) = some (int ((a / 63 : Nat) : Int)) := by
  rw [binC_int _ _ rfl]
  show (match eqB (63 : Int) 0 with | true => none | false => some (Value.int .i64 (wrapA .i64 ((a : Int).tdiv 63)))) = _
  rw [eqB_eq, decide_eq_false (by omega)]
  show some (Value.int .i64 (wrapA .i64 ((a / 63 : Nat) : Int))) = _
  rw [wrap_i (by omega) (by omega)]
theorem Size_spec {n : Int} (hk : K (int (fSize n)) H) : wCall P n_frame_Size [int n] H K := by
  apply frame_Size_ok; unfold frame_Size
  unfold fSize at hk
  refine join_with (fun l' H' => l' = [int n] ∧ H' = H ∧ ¬ (n < 0 ∨ 4000 < n)) ?_ ?_
  · refine opP_i bin_lss ?_
    refine wIf_dec (fun h => ?_) (fun h => ?_)
    · rw [if_pos (.inl h)] at hk
      rw [decide_eq_true h]
      repeat (first | refine opP_i (by first | exact qa | exact qs | exact nilCheck_ptr | exact offPtr_ptr | exact bin_eql | exact bin_neq | exact bin_lss | exact bin_gtr | exact bin_leq | exact bin_geq | exact un_not | exact pick_true | exact pick_false | exact qy | exact qn | exact qi | exact qj) ?_ | refine opW_i (by first | exact lenSl_sl | exact min_w | exact max_w) ?_ | refine wy ?_ | refine wn ?_ | refine wIf_t rfl ?_ | refine wIf_f rfl ?_ | refine cond_yes rfl ?_ | refine cond_no rfl ?_)
      exact hk
    · rw [decide_eq_false h]
      refine opP_i bin_gtr ?_
      refine opP_i pick_false ?_
      refine wIf_dec (fun h2 => ?_) (fun h2 => ?_)
      · rw [if_pos (.inr h2)] at hk
        exact hk
      · exact ⟨rfl, rfl, by omega⟩
  rintro l' H' ⟨rfl, rfl, h⟩
  try simp only [nth_zero, nth_succ]
  rw [if_neg h] at hk
  have e1 : 13 + n + 4 + 63 - 1 = ((n.toNat + 79 : Nat) : Int) := by omega
  refine opP_i (bin_addi (by omega) (by omega)) ?_
  refine opP_i (bin_addi (by omega) (by omega)) ?_
  refine opP_i (bin_addi (by omega) (by omega)) ?_
  refine opP_i (bin_subi (by omega) (by omega)) ?_
  rw [e1]
  refine opP_i (bin_quo63 (by omega)) ?_
  exact hk
end J
set_option linter.unusedVariables false
set_option linter.unusedSimpArgs false
set_option maxRecDepth 100000
namespace J
open Go Go.Ab
variable {H : Heap} {Γ Γ2 : List (Nat × Blk)} {K : Value → Heap → Prop} {v w x : Value} {xs ys bs : List Int} {j p : Nat} {e : Int} {ss tt : List (List Int)}
theorem tk_ok {n : Nat} (h : n ≤ xs.length) : tkB xs 0 n = xs.take n ∧ tkR xs 0 n = xs.drop n ∧ tkE xs 0 n = 0 := ⟨if_pos ⟨rfl, h⟩, if_pos ⟨rfl, h⟩, if_pos ⟨rfl, h⟩⟩
theorem u8_inj {a b : Int} (ha : 0 ≤ a ∧ a ≤ 255) (hb : 0 ≤ b ∧ b ≤ 255) (h : UInt8.ofNat a.toNat = UInt8.ofNat b.toNat) : a = b := by
  have := congrArg UInt8.toNat h
  rw [UInt8.toNat_ofNat', UInt8.toNat_ofNat', Nat.mod_eq_of_lt (by omega), Nat.mod_eq_of_lt (by omega)] at this
  omega
theorem u8s_inj : ∀ {xs ys : List Int}, By xs → By ys → (xs.map fun n => UInt8.ofNat n.toNat) = (ys.map fun n => UInt8.ofNat n.toNat) → xs = ys
  | [], [], _, _, _ => rfl
  | [], _ :: _, _, _, h => by simp at h
  | _ :: _, [], _, _, h => by simp at h
  | x :: xs, y :: ys, hx, hy, h => by
    simp only [List.map_cons, List.cons.injEq] at h
    rw [u8_inj (hx x List.mem_cons_self) (hy y List.mem_cons_self) h.1, u8s_inj (fun z hz => hx z (List.mem_cons_of_mem _ hz)) (fun z hz => hy z (List.mem_cons_of_mem _ hz)) h.2]
theorem str_eqB (t : TypeId) (c : Bool) (hx : By xs) (hy : By ys) : (binC P .eql t c).f (strB xs) (strB ys) = some (.bool (decide (xs = ys))) := by
  rw [str_eq]
  by_cases h : xs = ys
  · subst h; simp
  · rw [decide_eq_false h]
    have : ¬ ((xs.map fun n => UInt8.ofNat n.toNat) = (ys.map fun n => UInt8.ofNat n.toNat)) := fun h' => h (u8s_inj hx hy h')
    congr 2
    simpa using this
theorem str_neB (t : TypeId) (c : Bool) (hx : By xs) (hy : By ys) : (binC P .neq t c).f (strB xs) (strB ys) = some (.bool (decide (xs ≠ ys))) := by
  have h1 : (binC P .neq t c).f (strB xs) (strB ys) = some (.bool (!((xs.map fun n => UInt8.ofNat n.toNat) == ys.map fun n => UInt8.ofNat n.toNat))) := rfl
  have h2 := str_eqB t c hx hy
  rw [str_eq] at h2
  have h3 := Option.some.inj h2
  simp only [Value.bool.injEq] at h3
  rw [h1, h3]
  simp
theorem bj_eq : (Value.string ⟨#[66, 74]⟩) = strB [66, 74] := rfl
/-- the head of a frame: kind, number, length -/
def hKind (s : List Int) : Nat := leV ((s.drop 2).take 1)
def hSeq (s : List Int) : Nat := leV ((s.drop 3).take 8)
def hLen (s : List Int) : Nat := leV ((s.drop 11).take 2)
def fBody (ss : List (List Int)) (s : List Int) : List Int := ((plainS (ss.take (fSize (hLen s)))).drop 13).take (hLen s)
def fBad (ss : List (List Int)) (s : List Int) : Prop := s.take 2 ≠ [66, 74] ∨ fSize (hLen s) = 0 ∨ ss.length < fSize (hLen s)
instance (ss : List (List Int)) (s : List Int) : Decidable (fBad ss s) := by unfold fBad; infer_instance
structure Fr where
  kind : Nat
  seq : Nat
  body : List Int
  many : Nat
def fr0 : Fr := ⟨0, 0, [], 0⟩
open Classical in
noncomputable def fGet (ss : List (List Int)) : Fr := match ss with
  | [] => fr0
  | s :: r => if fBad (s :: r) s then fr0 else if fPut (hKind s) (hSeq s) (fBody (s :: r) s) ≠ (s :: r).take (fSize (hLen s)) then fr0 else ⟨hKind s, hSeq s, fBody (s :: r) s, fSize (hLen s)⟩
theorem fPut_ok {kind seq : Nat} {body : List Int} : S64 (fPut kind seq body) := by
  unfold fPut
  split
  · intro s hs; cases hs
  · exact chunkS_ok
theorem leV_take_lt {xs : List Int} (hb : By xs) (n : Nat) : leV (xs.take n) < 256 ^ n := by
  have := leV_lt (xs.take n) fun x hx => hb x (List.mem_of_mem_take hx)
  exact Nat.lt_of_lt_of_le this (Nat.pow_le_pow_right (by omega) (by rw [List.length_take]; omega))
theorem hLen_lt {s : List Int} (hb : By s) : hLen s < 65536 := leV_take_lt (fun x hx => hb x (List.mem_of_mem_drop hx)) 2
theorem hKind_lt {s : List Int} (hb : By s) : hKind s < 256 := leV_take_lt (fun x hx => hb x (List.mem_of_mem_drop hx)) 1
theorem hSeq_lt {s : List Int} (hb : By s) : hSeq s < 2 ^ 64 := leV_take_lt (fun x hx => hb x (List.mem_of_mem_drop hx)) 8
abbrev MadeF (Γ : List (Nat × Blk)) (K : Value → Heap → Prop) (f : Fr) : Prop := ∀ (H' : Heap) (v' : Value) (cs' : List Value), St H' (Γ ++ outB v' cs') → OwnB v' f.body cs' → K (.tuple [uint .u8 f.kind, uint .u64 f.seq, v', int f.many].toArray) H'
theorem MadeF.none (h : MadeF Γ K fr0) (hO : St H Γ) : K (.tuple [.int .u8 0, .int .u64 0, nilSl, .int .i64 0].toArray) H := h H nilSl [] (by show St H (Γ ++ []); rw [List.append_nil]; exact hO) OwnB.nil
theorem secBy (hO : St H Γ) (hs : S64 ss) (h : RdS Γ v ss) (hp : 0 < ss.length) {K : Value → Prop} (hk : ∀ v', RdB Γ v' ss[0] → K v') : opP (idxSl 64 v (.int .i64 0)) fun t => opP (sliceArr 64 1 t none none none H) K := by
  obtain ⟨p, o, c, j, b, rfl, h1, h2, h3⟩ := RdS.at hs h hp
  refine opP_i (idxSl_ok (by omega) (by omega)) ?_
  have e : o + (0 : Int).toNat * 64 = o + 0 * 64 := rfl
  rw [e]
  refine opP_i (slice_arr (n := 64) hO j h1 (by omega) h3) ?_
  have hl := hs _ (List.getElem_mem hp)
  exact hk _ (.inr ⟨p, o + 0 * 64, 3, by rw [hl], .inr rfl, .inr ⟨j, b, h1, by rw [hl]; exact h2⟩⟩)
set_option maxHeartbeats 4000000 in
theorem Get_spec (hO : St H Γ) (hs : S64 ss) (hb : ∀ s ∈ ss, By s) (h1 : RdS Γ v ss) (hl : ss.length ≤ 1000000) (hk : MadeF Γ K (fGet ss)) : wCall P n_frame_Get [v] H K := by
  apply frame_Get_ok; unfold frame_Get
  refine opW_i h1.lenSl ?_
  refine opP_i bin_eql ?_
  refine wIf_dec (fun h => ?_) (fun h => ?_)
  · have : ss = [] := List.length_eq_zero_iff.1 (by omega)
    subst this
    exact MadeF.none hk hO
  match ss, h with
  | [], h => exact absurd rfl h
  | s :: r, h =>
  have hsl : s.length = 64 := hs s List.mem_cons_self
  have hsb : By s := hb s List.mem_cons_self
  have kl := hKind_lt hsb
  have nl := hLen_lt hsb
  have ql := hSeq_lt hsb
  refine secBy hO hs h1 (by simp) ?_
  intro vb hvb
  have hvb : RdB Γ vb s := hvb
  refine New_spec hO hvb ?_
  intro H pr hO
  obtain ⟨a1, a2, a3⟩ := tk_ok (xs := s) (n := 2) (by omega)
  refine rRaw_spec (n := 2) hO (at_r (k := 0) rfl) hvb.app (by omega) (by omega) ?_
  rw [a1, a2]
  clear hO
  intro H v2 vm cm hO i2 hm
  unfold rdN at hO
  rw [a3, Go.Ab.set_r] at hO
  replace hO : St H ((Γ ++ outB vm cm) ++ [(pr, rdr v2 0)]) := St.rot hO
  have hm' := hm.rd.app' (Γ := Γ)
  generalize hG : Γ ++ outB vm cm = G at hO hm'
  have hGs : ∀ {H : Heap} {Δ : List (Nat × Blk)}, St H (G ++ Δ) → St H (Γ ++ Δ) := fun h => by rw [← hG] at h; exact St.mid h
  have h1 : RdS G v (s :: r) := by rw [← hG]; exact h1.app
  have r2 : RdB G v2 (s.drop 2) := i2 _ (by rw [← hG]; exact hvb.app)
  clear hvb i2 hG
  have l2 : (s.drop 2).length = 62 := by rw [List.length_drop]; omega
  obtain ⟨b1, b2, b3⟩ := tk_ok (xs := s.drop 2) (n := 1) (by omega)
  refine rFixed_spec (k := 1) (by omega) hO (at_r (k := 0) rfl) r2.app (fun x hx => hsb x (List.mem_of_mem_drop hx)) ?_
  rw [b1, b2, b3]
  clear hO
  intro H v3 hO i3
  replace hO : St H (G ++ [(pr, rdr v3 0)]) := hO.set_r
  have r3 := i3 _ r2
  rw [List.drop_drop] at r3
  refine opW_i (cvU rfl) ?_
  rw [show leV ((s.drop 2).take 1) % szU .u8 = hKind s from Nat.mod_eq_of_lt kl]
  have l3 : (s.drop (2 + 1)).length = 61 := by rw [List.length_drop]; omega
  obtain ⟨c1, c2, c3⟩ := tk_ok (xs := s.drop (2 + 1)) (n := 8) (by omega)
  refine rFixed_spec (k := 8) (by omega) hO (at_r (k := 0) rfl) r3.app (fun x hx => hsb x (List.mem_of_mem_drop hx)) ?_
  rw [c1, c2, c3]
  clear hO
  intro H v4 hO i4
  replace hO : St H (G ++ [(pr, rdr v4 0)]) := hO.set_r
  have r4 := i4 _ r3
  rw [List.drop_drop] at r4
  have l4 : (s.drop (2 + 1 + 8)).length = 53 := by rw [List.length_drop]; omega
  obtain ⟨d1, d2, d3⟩ := tk_ok (xs := s.drop (2 + 1 + 8)) (n := 2) (by omega)
  refine rFixed_spec (k := 2) (by omega) hO (at_r (k := 0) rfl) r4.app (fun x hx => hsb x (List.mem_of_mem_drop hx)) ?_
  rw [d1, d2, d3]
  clear hO
  intro H v5 hO i5
  replace hO : St H (G ++ [(pr, rdr v5 0)]) := hO.set_r
  replace hO := hO.left
  have en : leV ((s.drop (2 + 1 + 8)).take 2) = hLen s := rfl
  have eq : leV ((s.drop (2 + 1)).take 8) = hSeq s := rfl
  rw [en, eq]
  refine opW_i (cvInt_i (k := .u64) (by omega) (by omega)) ?_
  refine Size_spec ?_
  refine join_with (fun l' H' => l' = [v, uint .u8 (hKind s), uint .u64 (hSeq s), int (hLen s), int (fSize (hLen s)), .bool (decide (fBad (s :: r) s))] ∧ H' = H) ?_ ?_
  · refine opW_i (hm'.str hO) ?_
    rw [bj_eq]
    refine opP_i (str_neB _ _ (fun x hx => hsb x (List.mem_of_mem_take hx)) (fun x hx => by simp at hx; omega)) ?_
    refine wIf_dec (fun h => ?_) (fun h => ?_)
    · rw [decide_eq_true h]
      repeat (first | refine opP_i (by first | exact qa | exact qs | exact nilCheck_ptr | exact offPtr_ptr | exact bin_eql | exact bin_neq | exact bin_lss | exact bin_gtr | exact bin_leq | exact bin_geq | exact un_not | exact pick_true | exact pick_false | exact qy | exact qn | exact qi | exact qj) ?_ | refine opW_i (by first | exact lenSl_sl | exact min_w | exact max_w) ?_ | refine wy ?_ | refine wn ?_ | refine wIf_t rfl ?_ | refine wIf_f rfl ?_ | refine cond_yes rfl ?_ | refine cond_no rfl ?_)
      exact ⟨by rw [decide_eq_true (show fBad (s :: r) s from .inl h)], rfl⟩
    rw [decide_eq_false h]
    refine opP_i bin_eql ?_
    refine opP_i pick_false ?_
    refine wIf_dec (fun h2 => ?_) (fun h2 => ?_)
    · rw [decide_eq_true h2]
      repeat (first | refine opP_i (by first | exact qa | exact qs | exact nilCheck_ptr | exact offPtr_ptr | exact bin_eql | exact bin_neq | exact bin_lss | exact bin_gtr | exact bin_leq | exact bin_geq | exact un_not | exact pick_true | exact pick_false | exact qy | exact qn | exact qi | exact qj) ?_ | refine opW_i (by first | exact lenSl_sl | exact min_w | exact max_w) ?_ | refine wy ?_ | refine wn ?_ | refine wIf_t rfl ?_ | refine wIf_f rfl ?_ | refine cond_yes rfl ?_ | refine cond_no rfl ?_)
      exact ⟨by rw [decide_eq_true (show fBad (s :: r) s from .inr (.inl (by omega)))], rfl⟩
    rw [decide_eq_false h2]
    refine opW_i h1.lenSl ?_
    refine opP_i bin_gtr ?_
    refine opP_i pick_false ?_
    refine ⟨?_, rfl⟩
    rw [decide_eq_decide.2 (show (((s :: r).length : Nat) : Int) < ((fSize (hLen s) : Nat) : Int) ↔ fBad (s :: r) s from ⟨fun h3 => .inr (.inr (by omega)), fun h3 => ?_⟩)]
    rcases h3 with h3 | h3 | h3
    · exact absurd h3 h
    · exact absurd (by omega) h2
    · omega
  rintro l' H' ⟨rfl, rfl⟩
  try simp only [nth_zero, nth_succ]
  unfold fGet at hk
  refine wIf_dec (fun h2 => ?_) (fun h2 => ?_)
  · simp only [if_pos h2] at hk
    have h5 : St H' (Γ ++ []) := hGs (by rw [List.append_nil]; exact hO)
    rw [List.append_nil] at h5
    exact MadeF.none hk h5
  simp only [if_neg h2] at hk
  have hmany : 0 < fSize (hLen s) ∧ fSize (hLen s) ≤ (s :: r).length ∧ s.take 2 = [66, 74] := by
    unfold fBad at h2
    refine ⟨by omega, by omega, ?_⟩
    exact Decidable.not_not.1 fun h' => h2 (.inl h')
  have hn4 : hLen s ≤ 4000 ∧ fSize (hLen s) = (hLen s + 79) / 63 := by
    have h0 := hmany.1
    unfold fSize at h0 ⊢
    split at h0
    · omega
    · rename_i h6
      rw [if_neg h6]
      exact ⟨by omega, by rw [Int.toNat_natCast]⟩
  obtain ⟨vs, e1, i6⟩ := sliceS_hi hs h1 hmany.2.1
  have hs6 : S64 ((s :: r).take (fSize (hLen s))) := fun x hx => hs x (List.mem_of_mem_take hx)
  have hl6 : ((s :: r).take (fSize (hLen s))).length = fSize (hLen s) := by rw [List.length_take]; omega
  refine opP_i e1 ?_
  refine plain_spec hO hs6 (i6 _ h1) (by omega) ?_
  clear hO
  intro H vp cp hO hp
  have hp' := hp.rd.app' (Γ := G)
  have h1 := h1.app (Δ := outB vp cp)
  generalize hG2 : G ++ outB vp cp = G2 at hO hp' h1
  have hGs2 : ∀ {H : Heap} {Δ : List (Nat × Blk)}, St H (G2 ++ Δ) → St H (Γ ++ Δ) := fun h => by rw [← hG2] at h; exact hGs (St.mid h)
  have hpl := plainS_len hs6
  rw [hl6] at hpl
  have hbp : By (plainS ((s :: r).take (fSize (hLen s)))) := by
    intro x hx
    obtain ⟨y, hy, hx⟩ := List.mem_flatMap.1 hx
    exact hb y (List.mem_of_mem_take hy) x (List.mem_of_mem_take hx)
  refine opP_i (v := int ((13 + hLen s : Nat) : Int)) (by rw [bin_addi (by omega) (by omega)]; congr 2) ?_
  obtain ⟨vy, e2, i7⟩ := slice_both (i := 13) (n := hLen s) hp' (by rw [hpl]; omega) (mx := none) (.inl rfl)
  refine opP_i e2 ?_
  have r7 : RdB G2 vy (fBody (s :: r) s) := i7 _ hp'
  have hby : By (fBody (s :: r) s) := fun x hx => hbp x (List.mem_of_mem_drop (List.mem_of_mem_take hx))
  refine Put_spec hO r7 hby kl ql ?_
  clear hO
  intro H vq hO hq
  have hq' := (RdS.own hq).app' (Γ := G2)
  obtain ⟨vs2, e3, i8⟩ := sliceS_hi hs (h1.app (Δ := outB vq (secC (fPut (hKind s) (hSeq s) (fBody (s :: r) s))))) hmany.2.1
  refine opP_i e3 ?_
  have hln : (fBody (s :: r) s).length ≤ 4000 := by
    show ((List.drop _ _).take _).length ≤ _
    rw [List.length_take]; omega
  refine Equal_spec hO fPut_ok hs6 hq' (i8 _ h1.app) (by
    unfold fPut
    split
    · simp
    · rw [chunkS_len, sealB_len]; unfold nCh; omega) ?_
  refine opP_i un_not ?_
  by_cases h9 : fPut (hKind s) (hSeq s) (fBody (s :: r) s) = (s :: r).take (fSize (hLen s))
  · rw [decide_eq_true h9]
    rw [if_neg (show ¬ (fPut (hKind s) (hSeq s) (fBody (s :: r) s) ≠ (s :: r).take (fSize (hLen s))) from fun h0 => h0 h9)] at hk
    refine wIf_f rfl ?_
    refine Clone_spec hO r7.app (by omega) ?_
    clear hO
    intro H vz cz hO hz
    exact hk H vz cz (hGs2 (St.mid hO)) hz
  · rw [decide_eq_false h9]
    simp only [if_pos h9] at hk
    refine wIf_t rfl ?_
    have h5 := hGs2 hO
    exact MadeF.none hk h5.left
end J
set_option linter.unusedVariables false
set_option linter.unusedSimpArgs false
set_option maxRecDepth 100000
namespace J
open Go Go.Ab
variable {H : Heap} {Γ Γ2 : List (Nat × Blk)} {K : Value → Heap → Prop} {v w x : Value} {xs ys bs : List Int} {j p : Nat} {e : Int} {ss tt : List (List Int)}
variable {L : Mloc} {m : Mp} {part pos : Int} {s : List Int}
/-! a bank's sectors -/
def Mp.secs (m : Mp) (part : Int) : List (List Int) := (List.range (m.size part)).map fun (y : Nat) => (m.read part y).1
theorem secs_len : (m.secs part).length = m.size part := by simp [Mp.secs]
theorem secs_ok (ok : m.Ok) : S64 (m.secs part) := by
  intro s hs
  obtain ⟨y, _, rfl⟩ := List.mem_map.1 hs
  exact Mp.read_len ok
theorem secs_take {y : Nat} (h : y < m.size part) : (m.secs part).take (y + 1) = (m.secs part).take y ++ [(m.read part y).1] := by
  rw [List.take_succ_eq_append_getElem (by rw [secs_len]; exact h)]
  congr 2
  simp [Mp.secs]
theorem size_le (ok : m.Ok) : m.size part ≤ 4096 := by
  unfold Mp.size
  split
  · rename_i h
    have := ok.s _ (Mp.span_mem h)
    have := ok.d.n
    omega
  · omega
theorem sectors_spec (ok : m.Ok) (hO : St H (Γ ++ MW L m)) (hk : ∀ H' v', St H' ((Γ ++ outB v' (secC (m.secs part))) ++ MW L m) → Own 64 v' (m.secs part).length (secC (m.secs part)) → K v' H') : wCall P n_journal_sectors [ptr L.pm 0, int part] H K := by
  apply journal_sectors_ok; unfold journal_sectors
  refine mSize_spec hO ?_
  have hsz := size_le ok (part := part)
  refine journal_sectors_L0_ind (fun k l' H' => ∃ (y : Nat) (v' : Value), y ≤ m.size part ∧ k = m.size part - y ∧ l' = [ptr L.pm 0, int part, nilSl, v', int (m.size part), int y] ∧ St H' ((Γ ++ outB v' (secC ((m.secs part).take y))) ++ MW L m) ∧ Own 64 v' y (secC ((m.secs part).take y))) _ _ ?_ (m.size part) _ _ ⟨0, nilSl, by omega, rfl, rfl, by show St H ((Γ ++ []) ++ _); rw [List.append_nil]; exact hO, .inl ⟨rfl, rfl, rfl⟩⟩
  clear hO
  rintro k l' H ⟨y, v', hy, rfl, rfl, hO, hv⟩
  unfold journal_sectors_L0
  try simp only [nth_zero, nth_succ]
  refine opP_i bin_lss ?_
  refine wIf_dec (fun h => ?_) (fun h => ?_)
  · have hyl : y < m.size part := by omega
    refine mRead_spec ok hO ?_
    clear hO
    intro H hO
    have hl := Mp.read_len ok (part := part) (pos := (y : Int))
    refine opP_i ext0 ?_
    refine opP_i ext1 ?_
    rw [zcS]
    refine new_at hO ?_
    clear hO
    intro p7 H hO
    refine storeAll_at hO (((Γ ++ outB v' (secC ((m.secs part).take y))) ++ MW L m).length + 0) (at_r rfl) (by rw [by8_len]; rfl) (by rw [by8_len]; exact hl) (by8_one _) ?_
    clear hO
    intro H hO
    replace hO := hO.set_r
    refine loadAll_at hO (((Γ ++ outB v' (secC ((m.secs part).take y))) ++ MW L m).length + 0) (at_r rfl) (by rw [by8_len]; exact hl) (by omega) ?_
    replace hO := hO.left.rot
    refine newSl_at hO (bsSec hl _) ?_
    clear hO
    intro q H hO
    refine append_elem hO hv (by rw [by8_len]; exact hl) (by omega) (by8_one _) (by omega) (by omega) ?_
    clear hO
    intro v2 H hO hv2
    have e4 : secC ((m.secs part).take y) ++ by8 (m.read part y).1 = secC ((m.secs part).take (y + 1)) := by
      rw [secs_take hyl]; simp [secC]
    rw [e4] at hO hv2
    repeat (first | refine opP_i (by first | exact qa | exact qs | exact nilCheck_ptr | exact offPtr_ptr | exact bin_eql | exact bin_neq | exact bin_lss | exact bin_gtr | exact bin_leq | exact bin_geq | exact un_not | exact pick_true | exact pick_false | exact qy | exact qn | exact qi | exact qj) ?_ | refine opW_i (by first | exact lenSl_sl | exact min_w | exact max_w) ?_ | refine wy ?_ | refine wn ?_ | refine wIf_t rfl ?_ | refine wIf_f rfl ?_ | refine cond_yes rfl ?_ | refine cond_no rfl ?_)
    exact ⟨_, by omega, y + 1, v2, by omega, rfl, rfl, hO.rot, hv2⟩
  · have ey : y = m.size part := by omega
    subst ey
    have e5 : (m.secs part).take (m.size part) = m.secs part := List.take_of_length_le (by rw [secs_len]; exact Nat.le_refl _)
    rw [e5] at hO hv
    refine cond_yes rfl ?_
    exact hk _ _ hO (by rw [secs_len]; exact hv)
/-! what stands in a bank -/
structure Row where
  bodies : List (List Int)
  first : Nat
  last : Nat
def row0 : Row := ⟨[], 0, 0⟩
def stStop (want : Nat) (f : Fr) (out : Row) : Prop := f.many = 0 ∨ f.kind ≠ want ∨ (want = 2 ∧ (f.seq = 0 ∨ f.seq - 1 ≠ out.last))
instance (want : Nat) (f : Fr) (out : Row) : Decidable (stStop want f out) := by unfold stStop; infer_instance
def stNext (want : Nat) (f : Fr) (out : Row) : Row := ⟨out.bodies ++ [f.body], if want = 1 then f.seq else out.first, f.seq⟩
noncomputable def standsGo : Nat → Nat → List (List Int) → Row → Row
  | 0, _, _, out => out
  | n + 1, want, ss, out => if stStop want (fGet ss) out then out else standsGo n 2 (ss.drop (fGet ss).many) (stNext want (fGet ss) out)
noncomputable def fStands (ss : List (List Int)) : Row := standsGo (ss.length + 1) 1 ss row0
/-- readable slices of bytes -/
def RdBs (Γ : List (Nat × Blk)) (vs : List Value) (bs : List (List Int)) : Prop := vs.length = bs.length ∧ ∀ i (h : i < vs.length) (h' : i < bs.length), RdB Γ vs[i] bs[i]
theorem RdBs.app {vs : List Value} {bs : List (List Int)} {Δ : List (Nat × Blk)} (h : RdBs Γ vs bs) : RdBs (Γ ++ Δ) vs bs := ⟨h.1, fun i h1 h2 => (h.2 i h1 h2).app⟩
theorem RdBs.app' {vs : List Value} {bs : List (List Int)} {Δ : List (Nat × Blk)} (h : RdBs Δ vs bs) : RdBs (Γ ++ Δ) vs bs := ⟨h.1, fun i h1 h2 => (h.2 i h1 h2).app'⟩
theorem RdBs.snoc {vs : List Value} {bs : List (List Int)} {v : Value} {b : List Int} (h : RdBs Γ vs bs) (hv : RdB Γ v b) : RdBs Γ (vs ++ [v]) (bs ++ [b]) := by
  refine ⟨by simp [h.1], fun i h1 h2 => ?_⟩
  by_cases hi : i < vs.length
  · rw [List.getElem_append_left hi, List.getElem_append_left (by have := h.1; omega)]
    exact h.2 i hi _
  · have e : i = vs.length := by simp at h1; omega
    subst e
    rw [List.getElem_append_right (Nat.le_refl _), List.getElem_append_right (by rw [h.1]; exact Nat.le_refl _)]
    simp only [Nat.sub_self, h.1, List.getElem_cons_zero]
    exact hv
theorem RdBs.mono {vs : List Value} {bs : List (List Int)} (h : RdBs Γ vs bs) (hm : ∀ v b, RdB Γ v b → RdB Γ2 v b) : RdBs Γ2 vs bs := ⟨h.1, fun i h1 h2 => hm _ _ (h.2 i h1 h2)⟩
theorem rdB_sub {Γ Γ2 : List (Nat × Blk)} {v : Value} {xs : List Int} (h : RdB Γ v xs) (hm : ∀ (j p : Nat) (b : Blk), Γ[j]? = some (p, b) → ∃ i : Nat, Γ2[i]? = some (p, b)) : RdB Γ2 v xs := by
  rcases h with h | ⟨p, o, c, h1, h2, h3 | ⟨j, b, h3, h4⟩⟩
  · exact .inl h
  · exact .inr ⟨p, o, c, h1, h2, .inl h3⟩
  · obtain ⟨i, hi⟩ := hm j p b h3
    exact .inr ⟨p, o, c, h1, h2, .inr ⟨i, b, hi, h4⟩⟩
theorem rdB_perm {Γ Γ2 : List (Nat × Blk)} {v : Value} {xs : List Int} (h : RdB Γ v xs) (hp : ∀ x ∈ Γ, x ∈ Γ2) : RdB Γ2 v xs := rdB_sub h fun j p b hj => by
  obtain ⟨i, hi, e⟩ := List.mem_iff_getElem.1 (hp _ (List.mem_of_getElem? hj))
  exact ⟨i, by rw [List.getElem?_eq_getElem hi, e]⟩
def rowV (vb : Value) (r : Row) : List Value := [vb, uint .u64 r.first, uint .u64 r.last]
theorem zcRow : zc P 56 = rowV nilSl row0 := by kernel_rfl
theorem fGet_many (h : (fGet ss).many ≠ 0) : (fGet ss).many ≤ ss.length := by
  revert h
  unfold fGet
  match ss with
  | [] => intro h; exact absurd rfl h
  | s :: r =>
    simp only
    split
    · intro h; exact absurd rfl h
    · rename_i h2
      split
      · intro h; exact absurd rfl h
      · intro _
        show fSize (hLen s) ≤ _
        unfold fBad at h2
        omega
theorem fGet_seq (hb : ∀ s ∈ ss, By s) : (fGet ss).seq < 2 ^ 64 ∧ (fGet ss).kind < 256 := by
  unfold fGet
  match ss with
  | [] => decide
  | s :: r =>
    simp only
    have hsb := hb s List.mem_cons_self
    split
    · decide
    · split
      · decide
      · exact ⟨hSeq_lt hsb, hKind_lt hsb⟩
theorem bin_subU64 {t : TypeId} {c : Bool} {a b : Nat} (h : b ≤ a) (ha : a < 2 ^ 64) : (binC P .sub t c).f (uint .u64 a) (uint .u64 b) = some (uint .u64 (a - b)) := by
  rw [show (uint .u64 a) = Value.int .u64 (a : Int) from rfl, show (uint .u64 b) = Value.int .u64 (b : Int) from rfl, bin_sub]
  have e : (a : Int) - (b : Int) = ((a - b : Nat) : Int) := by omega
  rw [e, wrap_u rfl, Nat.mod_eq_of_lt (show a - b < szU .u64 by show a - b < 2 ^ 64; omega)]
theorem bs_row (v : Value) (hv : ∃ a n c, v = .slice a n c) (H : Heap) : (buildSliceC P 24 1).f [(0, v)] H = some (sl H.next 0 1 3, H.push [v]) := by
  obtain ⟨a, n, c, rfl⟩ := hv
  exact bs65_1 _ _ _ _
end J
