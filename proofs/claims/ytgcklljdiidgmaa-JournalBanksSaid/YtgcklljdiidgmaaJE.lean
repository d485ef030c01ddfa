/- texts of the proof, one behind the other -/
import Derived.Test.YtgcklljdiidgmaaJD
set_option linter.unusedVariables false
set_option linter.unusedSimpArgs false
set_option maxRecDepth 100000
namespace J
open Go Go.Ab
variable {H : Heap} {Γ Γ2 : List (Nat × Blk)} {K : Value → Heap → Prop} {v w x : Value} {xs ys bs : List Int} {j p : Nat} {e : Int} {ss tt : List (List Int)}
variable {L : Mloc} {m : Mp} {part pos : Int} {s : List Int}
theorem St.rev3 {A B C : List (Nat × Blk)} (h : St H (((Γ ++ A) ++ B) ++ C)) : St H (((Γ ++ C) ++ B) ++ A) := h.perm (by
  simp only [List.append_assoc]
  refine List.Perm.append_left Γ ?_
  refine List.perm_append_comm.trans ?_
  rw [List.append_assoc, ← List.append_assoc, ← List.append_assoc]
  exact List.Perm.append_right A List.perm_append_comm)
set_option maxHeartbeats 4000000 in
/-- the rows of a bank: the loop -/
theorem stands_loop {B : List (Nat × Blk)} {p4 p5 : Nat} {vs : Value} {Qx : Nat → List Value → Heap → Prop} {Qr : List Value → Heap → Prop} (hs : S64 ss) (hb : ∀ s ∈ ss, By s) (hl : ss.length ≤ 100000) (hvs : RdS B vs ss)
    (hO : St H (B ++ [(p4, ⟨rowV nilSl row0, true⟩), (p5, ⟨rowV nilSl row0, true⟩)]))
    (hk : ∀ H' Δ vb vals, St H' (((B ++ [(p4, ⟨rowV vb (fStands ss), true⟩), (p5, ⟨rowV vb (fStands ss), true⟩)]) ++ Δ) ++ outB vb vals) → Own 1 vb (fStands ss).bodies.length vals → RdBs Δ vals (fStands ss).bodies → Qr [ptr p4 0] H') :
    wLoop P true 60 journal_stands_P0 16 [ptr p4 0, ptr p5 0, vs, .int .u8 1] H Qx Qr := by
  refine journal_stands_L0_ind (fun k l' H' => ∃ (v' : Value) (tt : List (List Int)) (want : Nat) (out : Row) (Δ : List (Nat × Blk)) (vb : Value) (vals : List Value), l' = [ptr p4 0, ptr p5 0, v', uint .u8 want] ∧ (want = 1 ∨ want = 2) ∧ tt.length ≤ k ∧ S64 tt ∧ (∀ s ∈ tt, By s) ∧ RdS B v' tt ∧ tt.length ≤ 100000 ∧ out.bodies.length + tt.length ≤ 100000 ∧ out.first < 2 ^ 64 ∧ out.last < 2 ^ 64
      ∧ St H' (((B ++ [(p4, ⟨rowV nilSl row0, true⟩), (p5, ⟨rowV vb out, true⟩)]) ++ Δ) ++ outB vb vals) ∧ Own 1 vb out.bodies.length vals ∧ RdBs Δ vals out.bodies ∧ fStands ss = standsGo (k + 1) want tt out) _ _ ?_ ss.length _ _
    ⟨vs, ss, 1, row0, [], nilSl, [], rfl, .inl rfl, Nat.le_refl _, hs, hb, hvs, hl, by show 0 + ss.length ≤ _; omega, by decide, by decide, by
      show St H (((B ++ [(p4, ⟨rowV nilSl row0, true⟩), (p5, ⟨rowV nilSl row0, true⟩)]) ++ []) ++ [])
      rw [List.append_nil, List.append_nil]; exact hO, .inl ⟨rfl, rfl, rfl⟩, ⟨rfl, fun i h => absurd h (by simp)⟩, rfl⟩
  clear hO hvs hs hb hl
  rintro k l' H ⟨v', tt, want, out, Δ, vb, vals, rfl, hw, hk2, hs, hb, hvs, hl, hlb, hf, hla, hO, hv, hrd, hgo⟩
  unfold journal_stands_L0
  try simp only [nth_zero, nth_succ]
  refine Get_spec hO hs hb hvs.app.app.app (by omega) ?_
  clear hO
  intro H v2 c2 hO h2
  obtain ⟨hsq, hkd⟩ := fGet_seq hb
  have hmn : (fGet tt).many ≠ 0 → (fGet tt).many ≤ tt.length := fGet_many
  unfold standsGo at hgo
  generalize fGet tt = f at *
  refine opP_i (v := uint .u8 f.kind) rfl ?_
  refine opP_i (v := uint .u64 f.seq) rfl ?_
  refine opP_i (v := v2) rfl ?_
  refine opP_i (v := int f.many) rfl ?_
  have i5 : ∀ Δ2, (((B ++ [(p4, (⟨rowV nilSl row0, true⟩ : Blk)), (p5, ⟨rowV vb out, true⟩)]) ++ Δ) ++ Δ2)[B.length + 1]? = some (p5, ⟨rowV vb out, true⟩) := fun Δ2 => at_l (at_l (at_r rfl))
  refine join_with (fun l' H' => l' = [ptr p4 0, ptr p5 0, v', uint .u8 want, uint .u64 f.seq, v2, int f.many, .bool (decide (stStop want f out))] ∧ H' = H) ?_ ?_
  · refine opP_i bin_eql ?_
    refine wIf_dec (fun h => ?_) (fun h => ?_)
    · rw [decide_eq_true h]
      repeat (first | refine opP_i (by first | exact qa | exact qs | exact nilCheck_ptr | exact offPtr_ptr | exact bin_eql | exact bin_neq | exact bin_lss | exact bin_gtr | exact bin_leq | exact bin_geq | exact un_not | exact pick_true | exact pick_false | exact qy | exact qn | exact qi | exact qj) ?_ | refine opW_i (by first | exact lenSl_sl | exact min_w | exact max_w) ?_ | refine wy ?_ | refine wn ?_ | refine wIf_t rfl ?_ | refine wIf_f rfl ?_ | refine cond_yes rfl ?_ | refine cond_no rfl ?_)
      exact ⟨by rw [decide_eq_true (show stStop want f out from .inl (by omega))], rfl⟩
    rw [decide_eq_false h]
    refine opP_i (bin_neq (k := .u8)) ?_
    refine opP_i pick_false ?_
    refine wIf_dec (fun h2 => ?_) (fun h2 => ?_)
    · rw [decide_eq_true h2]
      repeat (first | refine opP_i (by first | exact qa | exact qs | exact nilCheck_ptr | exact offPtr_ptr | exact bin_eql | exact bin_neq | exact bin_lss | exact bin_gtr | exact bin_leq | exact bin_geq | exact un_not | exact pick_true | exact pick_false | exact qy | exact qn | exact qi | exact qj) ?_ | refine opW_i (by first | exact lenSl_sl | exact min_w | exact max_w) ?_ | refine wy ?_ | refine wn ?_ | refine wIf_t rfl ?_ | refine wIf_f rfl ?_ | refine cond_yes rfl ?_ | refine cond_no rfl ?_)
      exact ⟨by rw [decide_eq_true (show stStop want f out from .inr (.inl (by omega)))], rfl⟩
    rw [decide_eq_false h2]
    refine opP_i (bin_eql (k := .u8)) ?_
    refine wIf_dec (fun h3 => ?_) (fun h3 => ?_)
    · rw [decide_eq_true h3]
      refine opP_i (bin_eql (k := .u64)) ?_
      refine wIf_dec (fun h4 => ?_) (fun h4 => ?_)
      · rw [decide_eq_true h4]
        repeat (first | refine opP_i (by first | exact qa | exact qs | exact nilCheck_ptr | exact offPtr_ptr | exact bin_eql | exact bin_neq | exact bin_lss | exact bin_gtr | exact bin_leq | exact bin_geq | exact un_not | exact pick_true | exact pick_false | exact qy | exact qn | exact qi | exact qj) ?_ | refine opW_i (by first | exact lenSl_sl | exact min_w | exact max_w) ?_ | refine wy ?_ | refine wn ?_ | refine wIf_t rfl ?_ | refine wIf_f rfl ?_ | refine cond_yes rfl ?_ | refine cond_no rfl ?_)
        exact ⟨by rw [decide_eq_true (show stStop want f out from .inr (.inr ⟨by omega, .inl (by omega)⟩))], rfl⟩
      · rw [decide_eq_false h4]
        refine opP_i (bin_subU64 (b := 1) (by omega) hsq) ?_
        refine opP_i offPtr_ptr ?_
        refine load_at hO (B.length + 1) (at_l (i5 _)) rfl ?_
        refine opP_i (bin_neq (k := .u64)) ?_
        refine opP_i pick_false ?_
        refine opP_i pick_true ?_
        refine opP_i pick_false ?_
        refine ⟨?_, rfl⟩
        rw [decide_eq_decide.2 (show (((f.seq - 1 : Nat) : Int) ≠ (out.last : Int)) ↔ stStop want f out from ⟨fun h5 => .inr (.inr ⟨by omega, .inr (by omega)⟩), fun h5 => ?_⟩)]
        rcases h5 with h5 | h5 | ⟨_, h5 | h5⟩
        · omega
        · omega
        · omega
        · omega
    · rw [decide_eq_false h3]
      repeat (first | refine opP_i (by first | exact qa | exact qs | exact nilCheck_ptr | exact offPtr_ptr | exact bin_eql | exact bin_neq | exact bin_lss | exact bin_gtr | exact bin_leq | exact bin_geq | exact un_not | exact pick_true | exact pick_false | exact qy | exact qn | exact qi | exact qj) ?_ | refine opW_i (by first | exact lenSl_sl | exact min_w | exact max_w) ?_ | refine wy ?_ | refine wn ?_ | refine wIf_t rfl ?_ | refine wIf_f rfl ?_ | refine cond_yes rfl ?_ | refine cond_no rfl ?_)
      refine ⟨?_, rfl⟩
      rw [decide_eq_false (show ¬ stStop want f out from fun h5 => ?_)]
      rcases h5 with h5 | h5 | ⟨h5, _⟩
      · omega
      · omega
      · omega
  rintro l' H' ⟨rfl, rfl⟩
  try simp only [nth_zero, nth_succ]
  refine wIf_dec (fun hst => ?_) (fun hst => ?_)
  · rw [if_pos hst] at hgo
    refine loadAll_at hO (B.length + 1) (at_l (i5 _)) rfl (by omega) ?_
    replace hO := hO.left
    refine storeAll_at hO (B.length + 0) (at_l (at_l (at_r rfl))) rfl rfl (by
      rcases hv with ⟨rfl, _, _⟩ | ⟨p, rfl | rfl, _⟩ <;> rfl) ?_
    clear hO
    intro H hO
    rw [List.set_append_left _ _ (by simp), List.set_append_left _ _ (by simp), Go.Ab.set_r] at hO
    try simp only [nth_zero, nth_succ]
    refine hk H Δ vb vals ?_ (by rw [hgo]; exact hv) (by rw [hgo]; exact hrd)
    rw [hgo]
    exact hO
  · rw [if_neg hst] at hgo
    have hm0 : f.many ≠ 0 := fun h => hst (.inl h)
    have hml := hmn hm0
    have hkw : f.kind = want := Decidable.byContradiction fun h => hst (.inr (.inl h))
    obtain ⟨k', rfl⟩ : ∃ k', k = k' + 1 := ⟨k - 1, by omega⟩
    obtain ⟨a1, n1, c1, e1⟩ : ∃ a1 n1 c1, vb = .slice a1 n1 c1 := by rcases hv with ⟨rfl, _, _⟩ | ⟨p, rfl | rfl, _⟩ <;> exact ⟨_, _, _, rfl⟩
    refine join_with (fun l' H' => l' = [ptr p4 0, ptr p5 0, v', uint .u64 f.seq, v2, int f.many] ∧ St H' ((((B ++ [(p4, ⟨rowV nilSl row0, true⟩), (p5, ⟨rowV vb ⟨out.bodies, if want = 1 then f.seq else out.first, out.last⟩, true⟩)]) ++ Δ) ++ outB vb vals) ++ outB v2 c2)) ?_ ?_
    · refine opP_i (bin_eql (k := .u8)) ?_
      refine wIf_dec (fun h => ?_) (fun h => ?_)
      · refine opP_i offPtr_ptr ?_
        refine store1_at hO (B.length + 1) (at_l (i5 _)) rfl (show 1 < 3 by omega) (show _ = rowV vb ⟨out.bodies, f.seq, out.last⟩ from rfl) ?_
        clear hO
        intro H hO
        rw [List.set_append_left _ _ (by simp), List.set_append_left _ _ (by simp), List.set_append_left _ _ (by simp), Go.Ab.set_r] at hO
        rw [if_pos (by omega)]
        exact ⟨rfl, hO⟩
      · rw [if_neg (by omega)]
        exact ⟨rfl, hO⟩
    clear hO i5
    rintro l' H ⟨rfl, hO⟩
    try simp only [nth_zero, nth_succ]
    have i5 : ∀ (r : Row) (vb : Value) (Δ Δ2 : List (Nat × Blk)), (((B ++ [(p4, (⟨rowV nilSl row0, true⟩ : Blk)), (p5, ⟨rowV vb r, true⟩)]) ++ Δ) ++ Δ2)[B.length + 1]? = some (p5, ⟨rowV vb r, true⟩) := fun r vb Δ Δ2 => at_l (at_l (at_r rfl))
    refine opP_i offPtr_ptr ?_
    refine store1_at hO (B.length + 1) (at_l (i5 _ _ _ _)) rfl (show 2 < 3 by omega) (show _ = rowV vb ⟨out.bodies, if want = 1 then f.seq else out.first, f.seq⟩ from rfl) ?_
    clear hO
    intro H hO
    rw [List.set_append_left _ _ (by simp), List.set_append_left _ _ (by simp), List.set_append_left _ _ (by simp), Go.Ab.set_r] at hO
    replace hO : St H ((((B ++ [(p4, ⟨rowV nilSl row0, true⟩), (p5, ⟨rowV vb ⟨out.bodies, if want = 1 then f.seq else out.first, f.seq⟩, true⟩)]) ++ Δ) ++ outB vb vals) ++ outB v2 c2) := hO
    refine opP_i offPtr_ptr ?_
    refine load_at hO (B.length + 1) (at_l (i5 _ _ _ _)) rfl ?_
    replace hO := hO.rot
    rw [List.append_assoc _ Δ] at hO
    refine newSl_at hO (bs_row v2 (RdB.shape h2.rd) _) ?_
    clear hO
    intro q H hO
    have h2o : ([v2] : List Value).all oneCell = true := by obtain ⟨a, n, c, rfl⟩ := RdB.shape h2.rd; rfl
    refine append_elem hO hv rfl (by omega) h2o (by omega) (by omega) ?_
    clear hO
    intro vb' H hO hv'
    obtain ⟨a2, n2, c3, e2⟩ : ∃ a1 n1 c1, vb' = .slice a1 n1 c1 := by rcases hv' with ⟨rfl, _, _⟩ | ⟨p, rfl | rfl, _⟩ <;> exact ⟨_, _, _, rfl⟩
    refine opP_i offPtr_ptr ?_
    refine store1_at hO (B.length + 1) (i5 _ _ _ _) (by rw [e2]; rfl) (show 0 < 3 by omega) (show _ = rowV vb' (stNext want f out) from rfl) ?_
    clear hO
    intro H hO
    rw [List.set_append_left _ _ (by simp), List.set_append_left _ _ (by simp), Go.Ab.set_r] at hO
    replace hO : St H (((B ++ [(p4, ⟨rowV nilSl row0, true⟩), (p5, ⟨rowV vb' (stNext want f out), true⟩)]) ++ (Δ ++ outB v2 c2)) ++ outB vb' (vals ++ [v2])) := hO
    obtain ⟨v3, e3, r3⟩ := sliceS_lo hs hvs hml
    refine opP_i e3 ?_
    have hnl : (stNext want f out).bodies.length = out.bodies.length + 1 := by show (out.bodies ++ [f.body]).length = _; simp
    refine ⟨k', by omega, v3, tt.drop f.many, 2, stNext want f out, Δ ++ outB v2 c2, vb', vals ++ [v2], rfl, .inr rfl, by rw [List.length_drop]; omega, fun s hx => hs s (List.mem_of_mem_drop hx), fun s hx => hb s (List.mem_of_mem_drop hx), r3 _ hvs, by rw [List.length_drop]; omega, by rw [hnl, List.length_drop]; omega, ?_, hsq, hO, by rw [hnl]; exact hv', hrd.app.snoc h2.rd.app', hgo⟩
    show (if want = 1 then f.seq else out.first) < 2 ^ 64
    split
    · exact hsq
    · exact hf
theorem stands_spec (ok : m.Ok) (hb : ∀ s ∈ m.secs part, By s) (hO : St H (Γ ++ MW L m))
    (hk : ∀ H' Δ vb vals, St H' (((Γ ++ Δ) ++ outB vb vals) ++ MW L m) → Own 1 vb (fStands (m.secs part)).bodies.length vals → RdBs Δ vals (fStands (m.secs part)).bodies → K (agg (rowV vb (fStands (m.secs part)))) H') :
    wCall P n_journal_stands [ptr L.pm 0, int part] H K := by
  apply journal_stands_ok; unfold journal_stands
  rw [zcRow]
  refine new_at hO ?_
  clear hO
  intro p4 H hO
  refine new_at hO ?_
  clear hO
  intro p5 H hO
  rw [List.append_assoc _ [_]] at hO
  replace hO := hO.rot
  refine sectors_spec ok hO ?_
  clear hO
  intro H vs hO hvs
  have hO2 : St H (((Γ ++ MW L m) ++ outB vs (secC (m.secs part))) ++ [(p4, ⟨rowV nilSl row0, true⟩), (p5, ⟨rowV nilSl row0, true⟩)]) := St.rev3 hO
  refine stands_loop (secs_ok ok) hb (by rw [secs_len]; have := size_le ok (part := part); omega) (RdS.own hvs).app' hO2 ?_
  clear hO hO2
  intro H Δ vb vals hO hv hrd
  refine loadAll_at hO (((Γ ++ MW L m) ++ outB vs (secC (m.secs part))).length + 0) (at_l (at_l (at_r rfl))) rfl (by omega) ?_
  refine hk H Δ vb vals ?_ hv hrd
  have h3 : St H ((Γ ++ MW L m) ++ (Δ ++ outB vb vals)) := by
    rw [List.append_assoc (_ ++ [_, _])] at hO
    refine hO.sub (List.Sublist.append ?_ (List.Sublist.refl _))
    rw [List.append_assoc (Γ ++ MW L m)]
    exact List.sublist_append_left _ _
  have h4 := h3.rot
  rw [← List.append_assoc Γ Δ] at h4
  exact h4
end J
set_option linter.unusedVariables false
set_option linter.unusedSimpArgs false
set_option maxRecDepth 100000
namespace J
open Go Go.Ab
variable {H : Heap} {Γ Γ2 : List (Nat × Blk)} {K : Value → Heap → Prop} {v w x : Value} {xs ys bs : List Int} {j p : Nat} {e : Int} {ss tt : List (List Int)}
variable {L : Mloc} {m : Mp} {part pos : Int} {s : List Int}
/-! a journal -/
structure Jn where
  a : Int
  b : Int
  now : Int
  last : Nat
  pos : Int
  ready : Bool
def jv (pm : Nat) (t : Jn) : List Value := [ptr pm 0, int t.a, int t.b, int t.now, uint .u64 t.last, int t.pos, .bool t.ready]
abbrev JB (pj pm : Nat) (t : Jn) : List (Nat × Blk) := [(pj, ⟨jv pm t, true⟩)]
structure Jn.Ok (t : Jn) : Prop where
  n : t.now = 0 ∨ t.now = 1
  l : t.last ≤ 4611686018427387904
  p : 0 ≤ t.pos ∧ t.pos ≤ 1000000
def Jn.bank (t : Jn) (i : Int) : Int := if i = 0 then t.a else t.b
variable {pj : Nat} {t : Jn}
theorem bank_at {i : Int} (h : i = 0 ∨ i = 1) : (jv L.pm t)[1 + i.toNat * 1]? = some (int (t.bank i)) := by
  rcases h with rfl | rfl <;> rfl
theorem jLast_spec {j : Nat} (hO : St H Γ) (hj : Γ[j]? = some (pj, ⟨jv L.pm t, true⟩)) (hk : K (uint .u64 t.last) H) : wCall P n_journal_Journal_Last [ptr pj 0] H K := by
  apply journal_Journal_Last_ok; unfold journal_Journal_Last
  repeat (first | refine opP_i (by first | exact qa | exact qs | exact nilCheck_ptr | exact offPtr_ptr | exact bin_eql | exact bin_neq | exact bin_lss | exact bin_gtr | exact bin_leq | exact bin_geq | exact un_not | exact pick_true | exact pick_false | exact qy | exact qn | exact qi | exact qj) ?_ | refine opW_i (by first | exact lenSl_sl | exact min_w | exact max_w) ?_ | refine wy ?_ | refine wn ?_ | refine wIf_t rfl ?_ | refine wIf_f rfl ?_ | refine cond_yes rfl ?_ | refine cond_no rfl ?_)
  refine load_at hO j hj rfl ?_
  exact hk
def Jn.left (t : Jn) (m : Mp) : Int := if t.ready = false then 0 else m.size (t.bank t.now) - t.pos
theorem jLeft_spec (ok : m.Ok) (jok : t.Ok) (hO : St H ((Γ ++ JB pj L.pm t) ++ MW L m)) (hk : K (int (t.left m)) H) : wCall P n_journal_Journal_Left [ptr pj 0] H K := by
  apply journal_Journal_Left_ok; unfold journal_Journal_Left
  repeat (first | refine opP_i (by first | exact qa | exact qs | exact nilCheck_ptr | exact offPtr_ptr | exact bin_eql | exact bin_neq | exact bin_lss | exact bin_gtr | exact bin_leq | exact bin_geq | exact un_not | exact pick_true | exact pick_false | exact qy | exact qn | exact qi | exact qj) ?_ | refine opW_i (by first | exact lenSl_sl | exact min_w | exact max_w) ?_ | refine wy ?_ | refine wn ?_ | refine wIf_t rfl ?_ | refine wIf_f rfl ?_ | refine cond_yes rfl ?_ | refine cond_no rfl ?_)
  refine load_at hO (Γ.length + 0) (at_l (at_r rfl)) rfl ?_
  refine opP_i un_not ?_
  unfold Jn.left at hk
  have hp := jok.p
  have hsz := size_le ok (part := t.bank t.now)
  refine wIf_intro (fun h => ?_) (fun h => ?_)
  · rw [if_pos (by simpa using h)] at hk
    exact hk
  · rw [if_neg (by simp at h; simp [h])] at hk
    repeat (first | refine opP_i (by first | exact qa | exact qs | exact nilCheck_ptr | exact offPtr_ptr | exact bin_eql | exact bin_neq | exact bin_lss | exact bin_gtr | exact bin_leq | exact bin_geq | exact un_not | exact pick_true | exact pick_false | exact qy | exact qn | exact qi | exact qj) ?_ | refine opW_i (by first | exact lenSl_sl | exact min_w | exact max_w) ?_ | refine wy ?_ | refine wn ?_ | refine wIf_t rfl ?_ | refine wIf_f rfl ?_ | refine cond_yes rfl ?_ | refine cond_no rfl ?_)
    refine load_at hO (Γ.length + 0) (at_l (at_r rfl)) rfl ?_
    repeat (first | refine opP_i (by first | exact qa | exact qs | exact nilCheck_ptr | exact offPtr_ptr | exact bin_eql | exact bin_neq | exact bin_lss | exact bin_gtr | exact bin_leq | exact bin_geq | exact un_not | exact pick_true | exact pick_false | exact qy | exact qn | exact qi | exact qj) ?_ | refine opW_i (by first | exact lenSl_sl | exact min_w | exact max_w) ?_ | refine wy ?_ | refine wn ?_ | refine wIf_t rfl ?_ | refine wIf_f rfl ?_ | refine cond_yes rfl ?_ | refine cond_no rfl ?_)
    refine load_at hO (Γ.length + 0) (at_l (at_r rfl)) rfl ?_
    repeat (first | refine opP_i (by first | exact qa | exact qs | exact nilCheck_ptr | exact offPtr_ptr | exact bin_eql | exact bin_neq | exact bin_lss | exact bin_gtr | exact bin_leq | exact bin_geq | exact un_not | exact pick_true | exact pick_false | exact qy | exact qn | exact qi | exact qj) ?_ | refine opW_i (by first | exact lenSl_sl | exact min_w | exact max_w) ?_ | refine wy ?_ | refine wn ?_ | refine wIf_t rfl ?_ | refine wIf_f rfl ?_ | refine cond_yes rfl ?_ | refine cond_no rfl ?_)
    refine opP_i (idxPtr_ok (by have := jok.n; omega) (by have := jok.n; omega)) ?_
    refine load_at hO (Γ.length + 0) (at_l (at_r rfl)) (by rw [Nat.zero_add]; exact bank_at jok.n) ?_
    refine mSize_spec hO ?_
    repeat (first | refine opP_i (by first | exact qa | exact qs | exact nilCheck_ptr | exact offPtr_ptr | exact bin_eql | exact bin_neq | exact bin_lss | exact bin_gtr | exact bin_leq | exact bin_geq | exact un_not | exact pick_true | exact pick_false | exact qy | exact qn | exact qi | exact qj) ?_ | refine opW_i (by first | exact lenSl_sl | exact min_w | exact max_w) ?_ | refine wy ?_ | refine wn ?_ | refine wIf_t rfl ?_ | refine wIf_f rfl ?_ | refine cond_yes rfl ?_ | refine cond_no rfl ?_)
    refine load_at hO (Γ.length + 0) (at_l (at_r rfl)) rfl ?_
    refine ⟨same_at hO (Γ.length + 0) (at_l (at_r rfl)) hO (Γ.length + 0) (at_l (at_r rfl)) rfl, ?_⟩
    refine opP_i (bin_subi (by omega) (by omega)) ?_
    exact hk
def Jn.fits (t : Jn) (m : Mp) (n : Int) : Prop := 0 < fSize n ∧ fSize n ≤ m.size t.a ∧ fSize n ≤ m.size t.b
instance (t : Jn) (m : Mp) (n : Int) : Decidable (t.fits m n) := by unfold Jn.fits; infer_instance
theorem jFits_spec {n : Int} (hO : St H ((Γ ++ JB pj L.pm t) ++ MW L m)) (hk : K (.bool (decide (t.fits m n))) H) : wCall P n_journal_Journal_Fits [ptr pj 0, int n] H K := by
  apply journal_Journal_Fits_ok; unfold journal_Journal_Fits
  refine Size_spec ?_
  refine opP_i bin_gtr ?_
  refine wIf_dec (fun h => ?_) (fun h => ?_)
  · rw [decide_eq_true h]
    repeat (first | refine opP_i (by first | exact qa | exact qs | exact nilCheck_ptr | exact offPtr_ptr | exact bin_eql | exact bin_neq | exact bin_lss | exact bin_gtr | exact bin_leq | exact bin_geq | exact un_not | exact pick_true | exact pick_false | exact qy | exact qn | exact qi | exact qj) ?_ | refine opW_i (by first | exact lenSl_sl | exact min_w | exact max_w) ?_ | refine wy ?_ | refine wn ?_ | refine wIf_t rfl ?_ | refine wIf_f rfl ?_ | refine cond_yes rfl ?_ | refine cond_no rfl ?_)
    refine load_at hO (Γ.length + 0) (at_l (at_r rfl)) rfl ?_
    repeat (first | refine opP_i (by first | exact qa | exact qs | exact nilCheck_ptr | exact offPtr_ptr | exact bin_eql | exact bin_neq | exact bin_lss | exact bin_gtr | exact bin_leq | exact bin_geq | exact un_not | exact pick_true | exact pick_false | exact qy | exact qn | exact qi | exact qj) ?_ | refine opW_i (by first | exact lenSl_sl | exact min_w | exact max_w) ?_ | refine wy ?_ | refine wn ?_ | refine wIf_t rfl ?_ | refine wIf_f rfl ?_ | refine cond_yes rfl ?_ | refine cond_no rfl ?_)
    refine load_at hO (Γ.length + 0) (at_l (at_r rfl)) (v := int t.a) rfl ?_
    refine mSize_spec hO ?_
    repeat (first | refine opP_i (by first | exact qa | exact qs | exact nilCheck_ptr | exact offPtr_ptr | exact bin_eql | exact bin_neq | exact bin_lss | exact bin_gtr | exact bin_leq | exact bin_geq | exact un_not | exact pick_true | exact pick_false | exact qy | exact qn | exact qi | exact qj) ?_ | refine opW_i (by first | exact lenSl_sl | exact min_w | exact max_w) ?_ | refine wy ?_ | refine wn ?_ | refine wIf_t rfl ?_ | refine wIf_f rfl ?_ | refine cond_yes rfl ?_ | refine cond_no rfl ?_)
    refine load_at hO (Γ.length + 0) (at_l (at_r rfl)) rfl ?_
    refine ⟨same_at hO (Γ.length + 0) (at_l (at_r rfl)) hO (Γ.length + 0) (at_l (at_r rfl)) rfl, ?_⟩
    repeat (first | refine opP_i (by first | exact qa | exact qs | exact nilCheck_ptr | exact offPtr_ptr | exact bin_eql | exact bin_neq | exact bin_lss | exact bin_gtr | exact bin_leq | exact bin_geq | exact un_not | exact pick_true | exact pick_false | exact qy | exact qn | exact qi | exact qj) ?_ | refine opW_i (by first | exact lenSl_sl | exact min_w | exact max_w) ?_ | refine wy ?_ | refine wn ?_ | refine wIf_t rfl ?_ | refine wIf_f rfl ?_ | refine cond_yes rfl ?_ | refine cond_no rfl ?_)
    refine load_at hO (Γ.length + 0) (at_l (at_r rfl)) (v := int t.b) rfl ?_
    refine ⟨same_at hO (Γ.length + 0) (at_l (at_r rfl)) hO (Γ.length + 0) (at_l (at_r rfl)) rfl, ?_⟩
    refine mSize_spec hO ?_
    refine opW_i min_w ?_
    refine opP_i bin_leq ?_
    refine opP_i pick_true ?_
    rw [decide_eq_decide.2 (show (fSize n : Int) ≤ min (m.size t.a : Int) (m.size t.b : Int) ↔ t.fits m n from ⟨fun h2 => ⟨by omega, by omega, by omega⟩, fun h2 => by have := h2.2.1; have := h2.2.2; omega⟩)]
    exact hk
  · rw [decide_eq_false h]
    rw [decide_eq_false (show ¬ t.fits m n from fun h2 => by have := h2.1; omega)] at hk
    refine opP_i pick_false ?_
    exact hk
/-- sectors, one behind the other; then all is kept -/
def mWrite (bank : Int) : Int → List (List Int) → Mp → Mp × Int
  | _, [], m => m.sync
  | a, s :: r, m => if (m.program bank a s).2 ≠ 0 then m.program bank a s else mWrite bank (a + 1) r (m.program bank a s).1
theorem mWrite_nil {bank a : Int} : mWrite bank a [] m = m.sync := rfl
theorem mWrite_cons {bank a : Int} {s : List Int} {r : List (List Int)} : mWrite bank a (s :: r) m = if (m.program bank a s).2 ≠ 0 then m.program bank a s else mWrite bank (a + 1) r (m.program bank a s).1 := rfl
theorem jWrite_spec {bank a : Int} {N : Nat} (ok : m.Ok) (hsm : m.Sm N) (hN : N + ss.length ≤ 1000000) (ha : 0 ≤ a ∧ a ≤ 1000000) (hs : S64 ss) (hv : RdS Γ v ss) (hO : St H ((Γ ++ JB pj L.pm t) ++ MW L m)) (how : Mown L m)
    (hk : ∀ H' L', L.Eq L' → St H' ((Γ ++ JB pj L.pm t) ++ MW L' (mWrite bank a ss m).1) → Mown L' (mWrite bank a ss m).1 → K (int (mWrite bank a ss m).2) H') : wCall P n_journal_Journal_write [ptr pj 0, int bank, int a, v] H K := by
  apply journal_Journal_write_ok; unfold journal_Journal_write
  refine opW_i hv.lenSl ?_
  refine journal_Journal_write_L0_ind (fun k l' H' => ∃ (y : Nat) (L2 : Mloc) (m2 : Mp), y ≤ ss.length ∧ k = ss.length - y ∧ l' = [ptr pj 0, int bank, int a, int 0, v, int ss.length, int y] ∧ L.Eq L2 ∧ m2.Ok ∧ m2.Sm (N + y) ∧ St H' ((Γ ++ JB pj L.pm t) ++ MW L2 m2) ∧ Mown L2 m2 ∧ mWrite bank a ss m = mWrite bank (a + y) (ss.drop y) m2) _ _ ?_ ss.length _ _ ⟨0, L, m, by omega, rfl, rfl, Mloc.Eq.rfl', ok, hsm, hO, how, by simp⟩
  clear hO how
  rintro k l' H ⟨y, L2, m2, hy, rfl, rfl, he, ok2, hs2, hO, hv2, hw⟩
  unfold journal_Journal_write_L0
  try simp only [nth_zero, nth_succ]
  refine opP_i bin_lss ?_
  have em := he.m
  refine wIf_dec (fun h1 => ?_) (fun h1 => ?_)
  · have hyl : y < ss.length := by omega
    have hsl := hs _ (List.getElem_mem hyl)
    rw [List.drop_eq_getElem_cons hyl, mWrite_cons] at hw
    refine secAt hO hs hv.app.app hyl ?_
    rw [zcS]
    refine new_at hO ?_
    clear hO
    intro p10 H hO
    refine storeAll_at hO (((Γ ++ JB pj L.pm t) ++ MW L2 m2).length + 0) (at_r rfl) (by rw [by8_len]; rfl) (by rw [by8_len]; exact hsl) (by8_one _) ?_
    clear hO
    intro H hO
    replace hO : St H (((Γ ++ JB pj L.pm t) ++ MW L2 m2) ++ [(p10, ⟨by8 ss[y], true⟩)]) := hO.set_r
    repeat (first | refine opP_i (by first | exact qa | exact qs | exact nilCheck_ptr | exact offPtr_ptr | exact bin_eql | exact bin_neq | exact bin_lss | exact bin_gtr | exact bin_leq | exact bin_geq | exact un_not | exact pick_true | exact pick_false | exact qy | exact qn | exact qi | exact qj) ?_ | refine opW_i (by first | exact lenSl_sl | exact min_w | exact max_w) ?_ | refine wy ?_ | refine wn ?_ | refine wIf_t rfl ?_ | refine wIf_f rfl ?_ | refine cond_yes rfl ?_ | refine cond_no rfl ?_)
    refine load_at hO (Γ.length + 0) (at_l (at_l (at_r rfl))) rfl ?_
    refine opP_i (bin_addi (by omega) (by omega)) ?_
    refine loadAll_at hO (((Γ ++ JB pj L.pm t) ++ MW L2 m2).length + 0) (at_r rfl) (by rw [by8_len]; exact hsl) (by omega) ?_
    rw [← em]
    refine mProgram_spec ok2 hsl (hs2.mono (by omega)) hO.left hv2 ?_
    clear hO
    intro H L3 he3 hO hv3
    refine opP_i bin_neq ?_
    refine wIf_dec (fun h3 => ?_) (fun h3 => ?_)
    · rw [if_pos h3] at hw
      try simp only [nth_zero, nth_succ]
      rw [hw] at hk
      exact hk _ L3 (he.trans he3) hO hv3
    · rw [if_neg h3] at hw
      repeat (first | refine opP_i (by first | exact qa | exact qs | exact nilCheck_ptr | exact offPtr_ptr | exact bin_eql | exact bin_neq | exact bin_lss | exact bin_gtr | exact bin_leq | exact bin_geq | exact un_not | exact pick_true | exact pick_false | exact qy | exact qn | exact qi | exact qj) ?_ | refine opW_i (by first | exact lenSl_sl | exact min_w | exact max_w) ?_ | refine wy ?_ | refine wn ?_ | refine wIf_t rfl ?_ | refine wIf_f rfl ?_ | refine cond_yes rfl ?_ | refine cond_no rfl ?_)
      refine ⟨_, by omega, y + 1, L3, _, by omega, rfl, rfl, he.trans he3, Mp.program_ok ok2 hsl, (Mp.program_sm hs2).mono (by omega), by rw [em]; exact hO, hv3, ?_⟩
      rw [hw, Int.add_assoc]; rfl
  · have ey : y = ss.length := by omega
    subst ey
    rw [List.drop_length, mWrite_nil] at hw
    refine cond_yes rfl ?_
    try simp only [nth_zero, nth_succ]
    repeat (first | refine opP_i (by first | exact qa | exact qs | exact nilCheck_ptr | exact offPtr_ptr | exact bin_eql | exact bin_neq | exact bin_lss | exact bin_gtr | exact bin_leq | exact bin_geq | exact un_not | exact pick_true | exact pick_false | exact qy | exact qn | exact qi | exact qj) ?_ | refine opW_i (by first | exact lenSl_sl | exact min_w | exact max_w) ?_ | refine wy ?_ | refine wn ?_ | refine wIf_t rfl ?_ | refine wIf_f rfl ?_ | refine cond_yes rfl ?_ | refine cond_no rfl ?_)
    refine load_at hO (Γ.length + 0) (at_l (at_r rfl)) rfl ?_
    rw [hw] at hk
    rw [← em]
    refine mSync_spec ok2 (hs2.mono (by omega)) hO hv2 ?_
    clear hO
    intro H L3 he3 hO hv3
    exact hk _ L3 (he.trans he3) hO hv3
end J
set_option linter.unusedVariables false
set_option linter.unusedSimpArgs false
set_option maxRecDepth 100000
namespace J
open Go Go.Ab
variable {H : Heap} {Γ Γ2 : List (Nat × Blk)} {K : Value → Heap → Prop} {v w x : Value} {xs ys bs body : List Int} {j p : Nat} {e : Int} {ss tt : List (List Int)}
variable {L : Mloc} {m : Mp} {part pos : Int} {s : List Int} {pj : Nat} {t : Jn}
/-! begin -/
def Jn.room (t : Jn) (m : Mp) (n : Int) : Prop := ¬ (¬ t.fits m n ∨ 4611686018427387904 ≤ t.last)
instance (t : Jn) (m : Mp) (n : Int) : Decidable (t.room m n) := by unfold Jn.room; infer_instance
/-- begin: the journal, the map, the error -/
noncomputable def jBegin (t : Jn) (m : Mp) (body : List Int) : Jn × Mp × Int :=
  if ¬ t.room m body.length then (t, m, 92) else
  let t1 : Jn := { t with ready := false }
  let o := 1 - t.now
  let bank := t.bank o
  let w := m.wipe bank
  if w.2 ≠ 0 then (t1, w.1, w.2) else
  let y := w.1.sync
  if y.2 ≠ 0 then (t1, y.1, y.2) else
  let l := fPut 1 (t.last + 1) body
  let z := mWrite bank 0 l y.1
  if z.2 ≠ 0 then (t1, z.1, z.2) else ({ t with now := o, last := t.last + 1, pos := l.length, ready := true }, z.1, 0)
theorem wipeN_sm {N : Nat} : ∀ (n y : Nat) (m : Mp) (N : Nat), m.Sm N → (Mp.wipeN part n y m).1.Sm (N + n)
  | 0, _, m, N, h => h
  | n + 1, y, m, N, h => by
    rw [Mp.wipeN_succ]
    split
    · exact (wipeN_sm (N := N) n (y + 1) m N h).mono (by omega)
    split
    · exact (Mp.erase_sm h).mono (by omega)
    · exact (wipeN_sm (N := N) n (y + 1) _ (N + 1) (Mp.erase_sm h)).mono (by omega)
theorem wipeN_ok : ∀ (n y : Nat) (m : Mp), m.Ok → (Mp.wipeN part n y m).1.Ok
  | 0, _, m, h => h
  | n + 1, y, m, h => by
    rw [Mp.wipeN_succ]
    split
    · exact wipeN_ok n (y + 1) m h
    split
    · exact Mp.erase_ok h
    · exact wipeN_ok n (y + 1) _ (Mp.erase_ok h)
theorem wipe_ok (ok : m.Ok) : (m.wipe part).1.Ok := by
  unfold Mp.wipe
  split
  · exact ok
  · exact wipeN_ok _ _ _ ok
theorem wipe_sm {N : Nat} (ok : m.Ok) (h : m.Sm N) : (m.wipe part).1.Sm (N + 4096) := by
  unfold Mp.wipe
  split
  · exact h.mono (by omega)
  · exact (wipeN_sm (N := N) _ _ _ N h).mono (by have := size_le ok (part := part); omega)
theorem mWrite_ok {bank : Int} : ∀ (l : List (List Int)) (a : Int) (m : Mp), m.Ok → S64 l → (mWrite bank a l m).1.Ok
  | [], _, m, h, _ => Mp.sync_ok h
  | s :: r, a, m, h, hs => by
    rw [mWrite_cons]
    split
    · exact Mp.program_ok h (hs s List.mem_cons_self)
    · exact mWrite_ok r _ _ (Mp.program_ok h (hs s List.mem_cons_self)) fun x hx => hs x (List.mem_cons_of_mem _ hx)
theorem mWrite_sm {bank : Int} : ∀ (l : List (List Int)) (a : Int) (m : Mp) (N : Nat), m.Sm N → (mWrite bank a l m).1.Sm (N + l.length)
  | [], _, m, N, h => Mp.sync_sm h
  | s :: r, a, m, N, h => by
    rw [mWrite_cons]
    split
    · exact (Mp.program_sm h).mono (by simp)
    · exact (mWrite_sm r _ _ (N + 1) (Mp.program_sm h)).mono (by simp; omega)
theorem fPut_len {kind seq : Nat} : (fPut kind seq body).length ≤ 100 := by
  unfold fPut
  split
  · simp
  · rw [chunkS_len, sealB_len]; unfold nCh; omega
theorem jBegin_ok (ok : m.Ok) : (jBegin t m body).2.1.Ok := by
  unfold jBegin
  split
  · exact ok
  simp only
  split
  · exact wipe_ok ok
  split
  · exact Mp.sync_ok (wipe_ok ok)
  split
  · exact mWrite_ok _ _ _ (Mp.sync_ok (wipe_ok ok)) fPut_ok
  · exact mWrite_ok _ _ _ (Mp.sync_ok (wipe_ok ok)) fPut_ok
theorem jBegin_sm {N : Nat} (ok : m.Ok) (h : m.Sm N) : (jBegin t m body).2.1.Sm (N + 4200) := by
  have h1 := wipe_sm ok h (part := t.bank (1 - t.now))
  have h2 := Mp.sync_sm h1
  have hl := fPut_len (body := body) (kind := 1) (seq := t.last + 1)
  unfold jBegin
  split
  · exact h.mono (by omega)
  simp only
  split
  · exact h1.mono (by omega)
  split
  · exact h2.mono (by omega)
  split
  · exact (mWrite_sm _ _ _ _ h2).mono (by omega)
  · exact (mWrite_sm _ _ _ _ h2).mono (by omega)
theorem jBegin_jok (jok : t.Ok) : (jBegin t m body).1.Ok := by
  unfold jBegin
  split
  · exact jok
  rename_i hr
  have hr := Decidable.not_not.1 hr
  unfold Jn.room at hr
  simp only
  split
  · exact ⟨jok.n, jok.l, jok.p⟩
  split
  · exact ⟨jok.n, jok.l, jok.p⟩
  split
  · exact ⟨jok.n, jok.l, jok.p⟩
  · have hl := fPut_len (body := body) (kind := 1) (seq := t.last + 1)
    refine ⟨by have := jok.n; show 1 - t.now = 0 ∨ 1 - t.now = 1; omega, by show t.last + 1 ≤ _; omega, by show 0 ≤ ((fPut 1 (t.last + 1) body).length : Int) ∧ ((fPut 1 (t.last + 1) body).length : Int) ≤ 1000000; omega⟩
theorem cvU64 {n : Nat} (hn : n + 1 < 2 ^ 64) {tt : TypeId} {c : Bool} : (binC P .add tt c).f (uint .u64 n) (uint .u64 1) = some (uint .u64 (n + 1)) := by
  rw [bin_addU rfl, Nat.mod_eq_of_lt (show n + 1 < szU .u64 from hn)]
/-- the journal's block, changed -/
theorem jset {t' : Jn} {R : List (Nat × Blk)} {c : List Value} (h : St H (((Γ ++ JB pj L.pm t) ++ R).set (Γ.length + 0) (pj, ⟨c, true⟩))) (hc : c = jv L.pm t') : St H ((Γ ++ JB pj L.pm t') ++ R) := by
  rw [List.set_append_left _ _ (by simp), Go.Ab.set_r, hc] at h
  exact h
set_option maxHeartbeats 2000000 in
theorem jBegin_spec {N : Nat} (ok : m.Ok) (jok : t.Ok) (hsm : m.Sm N) (hN : N + 10000 ≤ 1000000) (hv : RdB Γ v body) (hb : By body) (hl : body.length ≤ 1000000) (hO : St H ((Γ ++ JB pj L.pm t) ++ MW L m)) (how : Mown L m)
    (hk : ∀ H' L', L.Eq L' → St H' ((Γ ++ JB pj L'.pm (jBegin t m body).1) ++ MW L' (jBegin t m body).2.1) → Mown L' (jBegin t m body).2.1 → K (int (jBegin t m body).2.2) H') : wCall P n_journal_Journal_Begin [ptr pj 0, v] H K := by
  apply journal_Journal_Begin_ok; unfold journal_Journal_Begin
  unfold jBegin at hk
  refine join_with (fun l' H' => l' = [ptr pj 0, v] ∧ H' = H ∧ t.room m body.length) ?_ ?_
  · refine opW_i hv.lenSl ?_
    refine jFits_spec hO ?_
    refine opP_i un_not ?_
    by_cases h : t.fits m body.length
    · rw [decide_eq_true h]
      refine wIf_f rfl ?_
      repeat (first | refine opP_i (by first | exact qa | exact qs | exact nilCheck_ptr | exact offPtr_ptr | exact bin_eql | exact bin_neq | exact bin_lss | exact bin_gtr | exact bin_leq | exact bin_geq | exact un_not | exact pick_true | exact pick_false | exact qy | exact qn | exact qi | exact qj) ?_ | refine opW_i (by first | exact lenSl_sl | exact min_w | exact max_w) ?_ | refine wy ?_ | refine wn ?_ | refine wIf_t rfl ?_ | refine wIf_f rfl ?_ | refine cond_yes rfl ?_ | refine cond_no rfl ?_)
      refine load_at hO (Γ.length + 0) (at_l (at_r rfl)) rfl ?_
      refine opP_i (bin_geq (k := .u64)) ?_
      refine opP_i pick_false ?_
      refine wIf_dec (fun h2 => ?_) (fun h2 => ?_)
      · rw [if_pos (show ¬ t.room m body.length from fun h3 => h3 (.inr (by omega)))] at hk
        exact hk _ L Mloc.Eq.rfl' hO how
      · exact ⟨rfl, rfl, fun h3 => by rcases h3 with h3 | h3; exact h3 h; omega⟩
    · rw [decide_eq_false h]
      refine wIf_t rfl ?_
      refine opP_i pick_true ?_
      refine wIf_t rfl ?_
      rw [if_pos (show ¬ t.room m body.length from fun h3 => h3 (.inl h))] at hk
      exact hk _ L Mloc.Eq.rfl' hO how
  rintro l' H' ⟨rfl, rfl, hr⟩
  rw [if_neg (fun h => h hr)] at hk
  unfold Jn.room at hr
  try simp only [nth_zero, nth_succ]
  repeat (first | refine opP_i (by first | exact qa | exact qs | exact nilCheck_ptr | exact offPtr_ptr | exact bin_eql | exact bin_neq | exact bin_lss | exact bin_gtr | exact bin_leq | exact bin_geq | exact un_not | exact pick_true | exact pick_false | exact qy | exact qn | exact qi | exact qj) ?_ | refine opW_i (by first | exact lenSl_sl | exact min_w | exact max_w) ?_ | refine wy ?_ | refine wn ?_ | refine wIf_t rfl ?_ | refine wIf_f rfl ?_ | refine cond_yes rfl ?_ | refine cond_no rfl ?_)
  refine store1_at hO (Γ.length + 0) (at_l (at_r rfl)) rfl (show 6 < 7 by omega) rfl ?_
  clear hO
  intro H hO
  replace hO : St H ((Γ ++ JB pj L.pm { t with ready := false }) ++ MW L m) := jset hO rfl
  repeat (first | refine opP_i (by first | exact qa | exact qs | exact nilCheck_ptr | exact offPtr_ptr | exact bin_eql | exact bin_neq | exact bin_lss | exact bin_gtr | exact bin_leq | exact bin_geq | exact un_not | exact pick_true | exact pick_false | exact qy | exact qn | exact qi | exact qj) ?_ | refine opW_i (by first | exact lenSl_sl | exact min_w | exact max_w) ?_ | refine wy ?_ | refine wn ?_ | refine wIf_t rfl ?_ | refine wIf_f rfl ?_ | refine cond_yes rfl ?_ | refine cond_no rfl ?_)
  refine load_at hO (Γ.length + 0) (at_l (at_r rfl)) rfl ?_
  have hn := jok.n
  refine opP_i (v := int (1 - t.now)) (bin_subi (by show _ ≤ 1 - t.now; omega) (by show 1 - t.now ≤ _; omega)) ?_
  repeat (first | refine opP_i (by first | exact qa | exact qs | exact nilCheck_ptr | exact offPtr_ptr | exact bin_eql | exact bin_neq | exact bin_lss | exact bin_gtr | exact bin_leq | exact bin_geq | exact un_not | exact pick_true | exact pick_false | exact qy | exact qn | exact qi | exact qj) ?_ | refine opW_i (by first | exact lenSl_sl | exact min_w | exact max_w) ?_ | refine wy ?_ | refine wn ?_ | refine wIf_t rfl ?_ | refine wIf_f rfl ?_ | refine cond_yes rfl ?_ | refine cond_no rfl ?_)
  refine load_at hO (Γ.length + 0) (at_l (at_r rfl)) (v := int (t.bank (1 - t.now))) (by rw [Nat.zero_add]; exact bank_at (t := { t with ready := false }) (by omega)) ?_
  repeat (first | refine opP_i (by first | exact qa | exact qs | exact nilCheck_ptr | exact offPtr_ptr | exact bin_eql | exact bin_neq | exact bin_lss | exact bin_gtr | exact bin_leq | exact bin_geq | exact un_not | exact pick_true | exact pick_false | exact qy | exact qn | exact qi | exact qj) ?_ | refine opW_i (by first | exact lenSl_sl | exact min_w | exact max_w) ?_ | refine wy ?_ | refine wn ?_ | refine wIf_t rfl ?_ | refine wIf_f rfl ?_ | refine cond_yes rfl ?_ | refine cond_no rfl ?_)
  refine load_at hO (Γ.length + 0) (at_l (at_r rfl)) rfl ?_
  refine mWipe_spec (N := N) ok hsm (by omega) hO how ?_
  clear hO
  intro H L1 he1 hO how1
  simp only at hk
  have w1 := wipe_sm ok hsm (part := t.bank (1 - t.now))
  have w2 := wipe_ok ok (part := t.bank (1 - t.now))
  generalize m.wipe (t.bank (1 - t.now)) = W at *
  refine opP_i bin_neq ?_
  rw [← he1.m] at hO
  refine wIf_dec (fun h => ?_) (fun h => ?_)
  · rw [if_pos h] at hk
    exact hk _ L1 he1 hO how1
  rw [if_neg h] at hk
  repeat (first | refine opP_i (by first | exact qa | exact qs | exact nilCheck_ptr | exact offPtr_ptr | exact bin_eql | exact bin_neq | exact bin_lss | exact bin_gtr | exact bin_leq | exact bin_geq | exact un_not | exact pick_true | exact pick_false | exact qy | exact qn | exact qi | exact qj) ?_ | refine opW_i (by first | exact lenSl_sl | exact min_w | exact max_w) ?_ | refine wy ?_ | refine wn ?_ | refine wIf_t rfl ?_ | refine wIf_f rfl ?_ | refine cond_yes rfl ?_ | refine cond_no rfl ?_)
  refine load_at hO (Γ.length + 0) (at_l (at_r rfl)) rfl ?_
  refine mSync_spec w2 (w1.mono (by omega)) hO how1 ?_
  clear hO
  intro H L2 he2 hO how2
  have w3 := Mp.sync_sm w1
  have w4 := Mp.sync_ok w2
  generalize W.1.sync = Y at *
  refine opP_i bin_neq ?_
  rw [← he2.m] at hO
  refine wIf_dec (fun h => ?_) (fun h => ?_)
  · rw [if_pos h] at hk
    exact hk _ L2 (he1.trans he2) hO how2
  rw [if_neg h] at hk
  repeat (first | refine opP_i (by first | exact qa | exact qs | exact nilCheck_ptr | exact offPtr_ptr | exact bin_eql | exact bin_neq | exact bin_lss | exact bin_gtr | exact bin_leq | exact bin_geq | exact un_not | exact pick_true | exact pick_false | exact qy | exact qn | exact qi | exact qj) ?_ | refine opW_i (by first | exact lenSl_sl | exact min_w | exact max_w) ?_ | refine wy ?_ | refine wn ?_ | refine wIf_t rfl ?_ | refine wIf_f rfl ?_ | refine cond_yes rfl ?_ | refine cond_no rfl ?_)
  refine load_at hO (Γ.length + 0) (at_l (at_r rfl)) rfl ?_
  refine opP_i (v := uint .u64 (t.last + 1)) (cvU64 (n := t.last) (by omega)) ?_
  refine Put_spec (kind := 1) (seq := t.last + 1) hO hv.app.app hb (by omega) (by omega) ?_
  have hpl := fPut_len (body := body) (kind := 1) (seq := t.last + 1)
  have hps := fPut_ok (body := body) (kind := 1) (seq := t.last + 1)
  generalize fPut 1 (t.last + 1) body = l at *
  clear hO
  intro H vl hO hvl
  have hO2 : St H (((Γ ++ outB vl (secC l)) ++ JB pj L2.pm { t with ready := false }) ++ MW L2 Y.1) := by
    have h3 := hO
    rw [List.append_assoc Γ] at h3
    have h4 := h3.rot
    rw [← List.append_assoc (Γ ++ outB vl (secC l))] at h4
    exact h4
  have fin : ∀ {H : Heap} {Δ1 Δ2 : List (Nat × Blk)}, St H (((Γ ++ outB vl (secC l)) ++ Δ1) ++ Δ2) → St H ((Γ ++ Δ1) ++ Δ2) := fun h => h.sub (List.Sublist.append (List.Sublist.append (List.sublist_append_left _ _) (List.Sublist.refl _)) (List.Sublist.refl _))
  refine jWrite_spec (N := N + 4096) (a := 0) w4 w3 (by omega) (by omega) hps (RdS.own hvl).app' hO2 how2 ?_
  clear hO hO2
  intro H L3 he3 hO how3
  generalize mWrite (t.bank (1 - t.now)) 0 l Y.1 = Z at *
  refine opP_i bin_neq ?_
  rw [← he3.m] at hO
  refine wIf_dec (fun h => ?_) (fun h => ?_)
  · rw [if_pos h] at hk
    exact hk _ L3 ((he1.trans he2).trans he3) (fin hO) how3
  rw [if_neg h] at hk
  replace hO := fin hO
  repeat (first | refine opP_i (by first | exact qa | exact qs | exact nilCheck_ptr | exact offPtr_ptr | exact bin_eql | exact bin_neq | exact bin_lss | exact bin_gtr | exact bin_leq | exact bin_geq | exact un_not | exact pick_true | exact pick_false | exact qy | exact qn | exact qi | exact qj) ?_ | refine opW_i (by first | exact lenSl_sl | exact min_w | exact max_w) ?_ | refine wy ?_ | refine wn ?_ | refine wIf_t rfl ?_ | refine wIf_f rfl ?_ | refine cond_yes rfl ?_ | refine cond_no rfl ?_)
  refine load_at hO (Γ.length + 0) (at_l (at_r rfl)) rfl ?_
  refine opP_i (v := uint .u64 (t.last + 1)) (cvU64 (n := t.last) (by omega)) ?_
  refine opW_i hvl.lenSl ?_
  repeat (first | refine opP_i (by first | exact qa | exact qs | exact nilCheck_ptr | exact offPtr_ptr | exact bin_eql | exact bin_neq | exact bin_lss | exact bin_gtr | exact bin_leq | exact bin_geq | exact un_not | exact pick_true | exact pick_false | exact qy | exact qn | exact qi | exact qj) ?_ | refine opW_i (by first | exact lenSl_sl | exact min_w | exact max_w) ?_ | refine wy ?_ | refine wn ?_ | refine wIf_t rfl ?_ | refine wIf_f rfl ?_ | refine cond_yes rfl ?_ | refine cond_no rfl ?_)
  refine store1_at hO (Γ.length + 0) (at_l (at_r rfl)) rfl (show 3 < 7 by omega) rfl ?_
  clear hO
  intro H hO
  replace hO : St H ((Γ ++ JB pj L3.pm { t with ready := false, now := 1 - t.now }) ++ MW L3 Z.1) := jset hO rfl
  repeat (first | refine opP_i (by first | exact qa | exact qs | exact nilCheck_ptr | exact offPtr_ptr | exact bin_eql | exact bin_neq | exact bin_lss | exact bin_gtr | exact bin_leq | exact bin_geq | exact un_not | exact pick_true | exact pick_false | exact qy | exact qn | exact qi | exact qj) ?_ | refine opW_i (by first | exact lenSl_sl | exact min_w | exact max_w) ?_ | refine wy ?_ | refine wn ?_ | refine wIf_t rfl ?_ | refine wIf_f rfl ?_ | refine cond_yes rfl ?_ | refine cond_no rfl ?_)
  refine store1_at hO (Γ.length + 0) (at_l (at_r rfl)) rfl (show 4 < 7 by omega) rfl ?_
  clear hO
  intro H hO
  replace hO : St H ((Γ ++ JB pj L3.pm { t with ready := false, now := 1 - t.now, last := t.last + 1 }) ++ MW L3 Z.1) := jset hO rfl
  repeat (first | refine opP_i (by first | exact qa | exact qs | exact nilCheck_ptr | exact offPtr_ptr | exact bin_eql | exact bin_neq | exact bin_lss | exact bin_gtr | exact bin_leq | exact bin_geq | exact un_not | exact pick_true | exact pick_false | exact qy | exact qn | exact qi | exact qj) ?_ | refine opW_i (by first | exact lenSl_sl | exact min_w | exact max_w) ?_ | refine wy ?_ | refine wn ?_ | refine wIf_t rfl ?_ | refine wIf_f rfl ?_ | refine cond_yes rfl ?_ | refine cond_no rfl ?_)
  refine store1_at hO (Γ.length + 0) (at_l (at_r rfl)) rfl (show 5 < 7 by omega) rfl ?_
  clear hO
  intro H hO
  replace hO : St H ((Γ ++ JB pj L3.pm { t with ready := false, now := 1 - t.now, last := t.last + 1, pos := l.length }) ++ MW L3 Z.1) := jset hO rfl
  repeat (first | refine opP_i (by first | exact qa | exact qs | exact nilCheck_ptr | exact offPtr_ptr | exact bin_eql | exact bin_neq | exact bin_lss | exact bin_gtr | exact bin_leq | exact bin_geq | exact un_not | exact pick_true | exact pick_false | exact qy | exact qn | exact qi | exact qj) ?_ | refine opW_i (by first | exact lenSl_sl | exact min_w | exact max_w) ?_ | refine wy ?_ | refine wn ?_ | refine wIf_t rfl ?_ | refine wIf_f rfl ?_ | refine cond_yes rfl ?_ | refine cond_no rfl ?_)
  refine store1_at hO (Γ.length + 0) (at_l (at_r rfl)) rfl (show 6 < 7 by omega) rfl ?_
  clear hO
  intro H hO
  replace hO : St H ((Γ ++ JB pj L3.pm { t with ready := true, now := 1 - t.now, last := t.last + 1, pos := l.length }) ++ MW L3 Z.1) := jset hO rfl
  exact hk _ L3 ((he1.trans he2).trans he3) hO how3
end J
set_option linter.unusedVariables false
set_option linter.unusedSimpArgs false
set_option maxRecDepth 100000
namespace J
open Go Go.Ab
variable {H : Heap} {Γ Γ2 : List (Nat × Blk)} {K : Value → Heap → Prop} {v w x : Value} {xs ys bs body : List Int} {j p : Nat} {e : Int} {ss tt : List (List Int)}
variable {L : Mloc} {m : Mp} {part pos : Int} {s : List Int} {pj : Nat} {t : Jn}
/-! append -/
def Jn.more (t : Jn) (m : Mp) (n : Nat) : Prop := ¬ (n = 0 ∨ t.left m < n ∨ 4611686018427387904 ≤ t.last)
instance (t : Jn) (m : Mp) (n : Nat) : Decidable (t.more m n) := by unfold Jn.more; infer_instance
/-- append: the journal, the map, the error -/
noncomputable def jAppend (t : Jn) (m : Mp) (body : List Int) : Jn × Mp × Int :=
  if t.ready = false then (t, m, 91) else
  let l := fPut 2 (t.last + 1) body
  if ¬ t.more m l.length then (t, m, 92) else
  let z := mWrite (t.bank t.now) t.pos l m
  if z.2 ≠ 0 then ({ t with ready := false }, z.1, z.2) else ({ t with last := t.last + 1, pos := t.pos + l.length }, z.1, 0)
theorem jAppend_ok (ok : m.Ok) : (jAppend t m body).2.1.Ok := by
  unfold jAppend
  split
  · exact ok
  simp only
  split
  · exact ok
  split
  · exact mWrite_ok _ _ _ ok fPut_ok
  · exact mWrite_ok _ _ _ ok fPut_ok
theorem jAppend_sm {N : Nat} (ok : m.Ok) (h : m.Sm N) : (jAppend t m body).2.1.Sm (N + 100) := by
  have hl := fPut_len (body := body) (kind := 2) (seq := t.last + 1)
  unfold jAppend
  split
  · exact h.mono (by omega)
  simp only
  split
  · exact h.mono (by omega)
  split
  · exact (mWrite_sm _ _ _ _ h).mono (by omega)
  · exact (mWrite_sm _ _ _ _ h).mono (by omega)
theorem jAppend_jok (ok : m.Ok) (jok : t.Ok) : (jAppend t m body).1.Ok := by
  unfold jAppend
  split
  · exact jok
  rename_i hr0
  simp only
  split
  · exact jok
  rename_i hr
  have hr := Decidable.not_not.1 hr
  unfold Jn.more at hr
  split
  · exact ⟨jok.n, jok.l, jok.p⟩
  · have hl := fPut_len (body := body) (kind := 2) (seq := t.last + 1)
    have h1 : t.left m = m.size (t.bank t.now) - t.pos := if_neg hr0
    have h2 := size_le ok (part := t.bank t.now)
    have := jok.p
    refine ⟨jok.n, by show t.last + 1 ≤ _; omega, by show 0 ≤ t.pos + ((fPut 2 (t.last + 1) body).length : Int) ∧ t.pos + ((fPut 2 (t.last + 1) body).length : Int) ≤ 1000000; omega⟩
set_option maxHeartbeats 2000000 in
theorem jAppend_spec {N : Nat} (ok : m.Ok) (jok : t.Ok) (hsm : m.Sm N) (hN : N + 10000 ≤ 1000000) (hv : RdB Γ v body) (hb : By body) (hO : St H ((Γ ++ JB pj L.pm t) ++ MW L m)) (how : Mown L m)
    (hk : ∀ H' L', L.Eq L' → St H' ((Γ ++ JB pj L'.pm (jAppend t m body).1) ++ MW L' (jAppend t m body).2.1) → Mown L' (jAppend t m body).2.1 → K (int (jAppend t m body).2.2) H') : wCall P n_journal_Journal_Append [ptr pj 0, v] H K := by
  apply journal_Journal_Append_ok; unfold journal_Journal_Append
  unfold jAppend at hk
  repeat (first | refine opP_i (by first | exact qa | exact qs | exact nilCheck_ptr | exact offPtr_ptr | exact bin_eql | exact bin_neq | exact bin_lss | exact bin_gtr | exact bin_leq | exact bin_geq | exact un_not | exact pick_true | exact pick_false | exact qy | exact qn | exact qi | exact qj) ?_ | refine opW_i (by first | exact lenSl_sl | exact min_w | exact max_w) ?_ | refine wy ?_ | refine wn ?_ | refine wIf_t rfl ?_ | refine wIf_f rfl ?_ | refine cond_yes rfl ?_ | refine cond_no rfl ?_)
  refine load_at hO (Γ.length + 0) (at_l (at_r rfl)) rfl ?_
  refine opP_i un_not ?_
  refine wIf_intro (fun h0 => ?_) (fun h0 => ?_)
  · rw [if_pos (by simpa using h0)] at hk
    exact hk _ L Mloc.Eq.rfl' hO how
  rw [if_neg (by simp at h0; simp [h0])] at hk
  have jl := jok.l
  have jp := jok.p
  repeat (first | refine opP_i (by first | exact qa | exact qs | exact nilCheck_ptr | exact offPtr_ptr | exact bin_eql | exact bin_neq | exact bin_lss | exact bin_gtr | exact bin_leq | exact bin_geq | exact un_not | exact pick_true | exact pick_false | exact qy | exact qn | exact qi | exact qj) ?_ | refine opW_i (by first | exact lenSl_sl | exact min_w | exact max_w) ?_ | refine wy ?_ | refine wn ?_ | refine wIf_t rfl ?_ | refine wIf_f rfl ?_ | refine cond_yes rfl ?_ | refine cond_no rfl ?_)
  refine load_at hO (Γ.length + 0) (at_l (at_r rfl)) rfl ?_
  refine opP_i (v := uint .u64 (t.last + 1)) (cvU64 (n := t.last) (by omega)) ?_
  refine Put_spec (kind := 2) (seq := t.last + 1) hO hv.app.app hb (by omega) (by omega) ?_
  simp only at hk
  have hpl := fPut_len (body := body) (kind := 2) (seq := t.last + 1)
  have hps := fPut_ok (body := body) (kind := 2) (seq := t.last + 1)
  generalize fPut 2 (t.last + 1) body = l at *
  clear hO
  intro H vl hO hvl
  have hO2 : St H (((Γ ++ outB vl (secC l)) ++ JB pj L.pm t) ++ MW L m) := by
    have h3 := hO
    rw [List.append_assoc Γ] at h3
    have h4 := h3.rot
    rw [← List.append_assoc (Γ ++ outB vl (secC l))] at h4
    exact h4
  clear hO
  have fin : ∀ {H : Heap} {Δ1 Δ2 : List (Nat × Blk)}, St H (((Γ ++ outB vl (secC l)) ++ Δ1) ++ Δ2) → St H ((Γ ++ Δ1) ++ Δ2) := fun h => h.sub (List.Sublist.append (List.Sublist.append (List.sublist_append_left _ _) (List.Sublist.refl _)) (List.Sublist.refl _))
  refine join_with (fun l' H' => l' = [ptr pj 0, vl] ∧ H' = H ∧ t.more m l.length) ?_ ?_
  · refine opW_i hvl.lenSl ?_
    refine opP_i bin_eql ?_
    refine wIf_dec (fun h => ?_) (fun h => ?_)
    · rw [if_pos (show ¬ t.more m l.length from fun h3 => h3 (.inl (by omega)))] at hk
      rw [decide_eq_true h]
      refine opP_i pick_true ?_
      refine opP_i pick_true ?_
      refine wIf_t rfl ?_
      exact hk _ L Mloc.Eq.rfl' (fin hO2) how
    · rw [decide_eq_false h]
      refine opW_i hvl.lenSl ?_
      refine jLeft_spec ok jok hO2 ?_
      refine opP_i bin_gtr ?_
      refine opP_i pick_false ?_
      refine wIf_dec (fun h2 => ?_) (fun h2 => ?_)
      · rw [if_pos (show ¬ t.more m l.length from fun h3 => h3 (.inr (.inl h2)))] at hk
        rw [decide_eq_true h2]
        refine opP_i pick_true ?_
        refine wIf_t rfl ?_
        exact hk _ L Mloc.Eq.rfl' (fin hO2) how
      · rw [decide_eq_false h2]
        repeat (first | refine opP_i (by first | exact qa | exact qs | exact nilCheck_ptr | exact offPtr_ptr | exact bin_eql | exact bin_neq | exact bin_lss | exact bin_gtr | exact bin_leq | exact bin_geq | exact un_not | exact pick_true | exact pick_false | exact qy | exact qn | exact qi | exact qj) ?_ | refine opW_i (by first | exact lenSl_sl | exact min_w | exact max_w) ?_ | refine wy ?_ | refine wn ?_ | refine wIf_t rfl ?_ | refine wIf_f rfl ?_ | refine cond_yes rfl ?_ | refine cond_no rfl ?_)
        refine load_at hO2 ((Γ ++ outB vl (secC l)).length + 0) (at_l (at_r rfl)) rfl ?_
        refine opP_i (bin_geq (k := .u64)) ?_
        refine opP_i pick_false ?_
        refine wIf_dec (fun h3 => ?_) (fun h3 => ?_)
        · rw [if_pos (show ¬ t.more m l.length from fun h4 => h4 (.inr (.inr (by omega))))] at hk
          exact hk _ L Mloc.Eq.rfl' (fin hO2) how
        · exact ⟨rfl, rfl, fun h4 => by rcases h4 with h4 | h4 | h4; exact h (by omega); exact h2 h4; exact h3 (by omega)⟩
  rintro l' H' ⟨rfl, rfl, hr⟩
  rw [if_neg (fun h => h hr)] at hk
  unfold Jn.more at hr
  have hleft : t.left m = m.size (t.bank t.now) - t.pos := if_neg (by simp at h0; simp [h0])
  have hsz := size_le ok (part := t.bank t.now)
  try simp only [nth_zero, nth_succ]
  repeat (first | refine opP_i (by first | exact qa | exact qs | exact nilCheck_ptr | exact offPtr_ptr | exact bin_eql | exact bin_neq | exact bin_lss | exact bin_gtr | exact bin_leq | exact bin_geq | exact un_not | exact pick_true | exact pick_false | exact qy | exact qn | exact qi | exact qj) ?_ | refine opW_i (by first | exact lenSl_sl | exact min_w | exact max_w) ?_ | refine wy ?_ | refine wn ?_ | refine wIf_t rfl ?_ | refine wIf_f rfl ?_ | refine cond_yes rfl ?_ | refine cond_no rfl ?_)
  refine load_at hO2 ((Γ ++ outB vl (secC l)).length + 0) (at_l (at_r rfl)) rfl ?_
  repeat (first | refine opP_i (by first | exact qa | exact qs | exact nilCheck_ptr | exact offPtr_ptr | exact bin_eql | exact bin_neq | exact bin_lss | exact bin_gtr | exact bin_leq | exact bin_geq | exact un_not | exact pick_true | exact pick_false | exact qy | exact qn | exact qi | exact qj) ?_ | refine opW_i (by first | exact lenSl_sl | exact min_w | exact max_w) ?_ | refine wy ?_ | refine wn ?_ | refine wIf_t rfl ?_ | refine wIf_f rfl ?_ | refine cond_yes rfl ?_ | refine cond_no rfl ?_)
  refine opP_i (idxPtr_ok (by have := jok.n; omega) (by have := jok.n; omega)) ?_
  refine load_at hO2 ((Γ ++ outB vl (secC l)).length + 0) (at_l (at_r rfl)) (by rw [Nat.zero_add]; exact bank_at jok.n) ?_
  repeat (first | refine opP_i (by first | exact qa | exact qs | exact nilCheck_ptr | exact offPtr_ptr | exact bin_eql | exact bin_neq | exact bin_lss | exact bin_gtr | exact bin_leq | exact bin_geq | exact un_not | exact pick_true | exact pick_false | exact qy | exact qn | exact qi | exact qj) ?_ | refine opW_i (by first | exact lenSl_sl | exact min_w | exact max_w) ?_ | refine wy ?_ | refine wn ?_ | refine wIf_t rfl ?_ | refine wIf_f rfl ?_ | refine cond_yes rfl ?_ | refine cond_no rfl ?_)
  refine load_at hO2 ((Γ ++ outB vl (secC l)).length + 0) (at_l (at_r rfl)) rfl ?_
  refine jWrite_spec (N := N) ok hsm (by omega) jp hps (RdS.own hvl).app' hO2 how ?_
  clear hO2
  intro H L3 he3 hO how3
  generalize mWrite (t.bank t.now) t.pos l m = Z at *
  replace hO := fin hO
  rw [← he3.m] at hO
  refine opP_i bin_neq ?_
  refine wIf_dec (fun h => ?_) (fun h => ?_)
  · rw [if_pos h] at hk
    repeat (first | refine opP_i (by first | exact qa | exact qs | exact nilCheck_ptr | exact offPtr_ptr | exact bin_eql | exact bin_neq | exact bin_lss | exact bin_gtr | exact bin_leq | exact bin_geq | exact un_not | exact pick_true | exact pick_false | exact qy | exact qn | exact qi | exact qj) ?_ | refine opW_i (by first | exact lenSl_sl | exact min_w | exact max_w) ?_ | refine wy ?_ | refine wn ?_ | refine wIf_t rfl ?_ | refine wIf_f rfl ?_ | refine cond_yes rfl ?_ | refine cond_no rfl ?_)
    refine store1_at hO (Γ.length + 0) (at_l (at_r rfl)) rfl (show 6 < 7 by omega) rfl ?_
    clear hO
    intro H hO
    replace hO : St H ((Γ ++ JB pj L3.pm { t with ready := false }) ++ MW L3 Z.1) := jset hO rfl
    exact hk _ L3 he3 hO how3
  rw [if_neg h] at hk
  repeat (first | refine opP_i (by first | exact qa | exact qs | exact nilCheck_ptr | exact offPtr_ptr | exact bin_eql | exact bin_neq | exact bin_lss | exact bin_gtr | exact bin_leq | exact bin_geq | exact un_not | exact pick_true | exact pick_false | exact qy | exact qn | exact qi | exact qj) ?_ | refine opW_i (by first | exact lenSl_sl | exact min_w | exact max_w) ?_ | refine wy ?_ | refine wn ?_ | refine wIf_t rfl ?_ | refine wIf_f rfl ?_ | refine cond_yes rfl ?_ | refine cond_no rfl ?_)
  refine load_at hO (Γ.length + 0) (at_l (at_r rfl)) rfl ?_
  refine opP_i (v := uint .u64 (t.last + 1)) (cvU64 (n := t.last) (by omega)) ?_
  repeat (first | refine opP_i (by first | exact qa | exact qs | exact nilCheck_ptr | exact offPtr_ptr | exact bin_eql | exact bin_neq | exact bin_lss | exact bin_gtr | exact bin_leq | exact bin_geq | exact un_not | exact pick_true | exact pick_false | exact qy | exact qn | exact qi | exact qj) ?_ | refine opW_i (by first | exact lenSl_sl | exact min_w | exact max_w) ?_ | refine wy ?_ | refine wn ?_ | refine wIf_t rfl ?_ | refine wIf_f rfl ?_ | refine cond_yes rfl ?_ | refine cond_no rfl ?_)
  refine load_at hO (Γ.length + 0) (at_l (at_r rfl)) rfl ?_
  refine opW_i hvl.lenSl ?_
  refine opP_i (bin_addi (by omega) (by omega)) ?_
  repeat (first | refine opP_i (by first | exact qa | exact qs | exact nilCheck_ptr | exact offPtr_ptr | exact bin_eql | exact bin_neq | exact bin_lss | exact bin_gtr | exact bin_leq | exact bin_geq | exact un_not | exact pick_true | exact pick_false | exact qy | exact qn | exact qi | exact qj) ?_ | refine opW_i (by first | exact lenSl_sl | exact min_w | exact max_w) ?_ | refine wy ?_ | refine wn ?_ | refine wIf_t rfl ?_ | refine wIf_f rfl ?_ | refine cond_yes rfl ?_ | refine cond_no rfl ?_)
  refine store1_at hO (Γ.length + 0) (at_l (at_r rfl)) rfl (show 4 < 7 by omega) rfl ?_
  clear hO
  intro H hO
  replace hO : St H ((Γ ++ JB pj L3.pm { t with last := t.last + 1 }) ++ MW L3 Z.1) := jset hO rfl
  repeat (first | refine opP_i (by first | exact qa | exact qs | exact nilCheck_ptr | exact offPtr_ptr | exact bin_eql | exact bin_neq | exact bin_lss | exact bin_gtr | exact bin_leq | exact bin_geq | exact un_not | exact pick_true | exact pick_false | exact qy | exact qn | exact qi | exact qj) ?_ | refine opW_i (by first | exact lenSl_sl | exact min_w | exact max_w) ?_ | refine wy ?_ | refine wn ?_ | refine wIf_t rfl ?_ | refine wIf_f rfl ?_ | refine cond_yes rfl ?_ | refine cond_no rfl ?_)
  refine store1_at hO (Γ.length + 0) (at_l (at_r rfl)) rfl (show 5 < 7 by omega) rfl ?_
  clear hO
  intro H hO
  replace hO : St H ((Γ ++ JB pj L3.pm { t with last := t.last + 1, pos := t.pos + l.length }) ++ MW L3 Z.1) := jset hO rfl
  exact hk _ L3 he3 hO how3
end J
set_option linter.unusedVariables false
set_option linter.unusedSimpArgs false
set_option maxRecDepth 100000
namespace J
open Go Go.Ab
variable {H : Heap} {Γ Γ2 : List (Nat × Blk)} {K : Value → Heap → Prop} {v w x : Value} {xs ys bs body : List Int} {j p : Nat} {e : Int} {ss tt : List (List Int)}
variable {L : Mloc} {m : Mp} {part pos : Int} {s : List Int} {pj : Nat} {t : Jn}
/-! open -/
theorem _root_.Go.Ab.St.ne [lp : LpC] {i j p q : Nat} {b b' : Blk} (h : St H Γ) (hi : Γ[i]? = some (p, b)) (hj : Γ[j]? = some (q, b')) (hij : i ≠ j) : p ≠ q := by
  intro e
  subst e
  have n1 : (Γ.map (·.1))[i]? = some p := by rw [List.getElem?_map, hi]; rfl
  have n2 : (Γ.map (·.1))[j]? = some p := by rw [List.getElem?_map, hj]; rfl
  have hlt : i < (Γ.map (·.1)).length := by rw [List.length_map]; exact (List.getElem?_eq_some_iff.1 hi).1
  exact hij ((List.getElem?_inj hlt h.nd).1 (n1.trans n2.symm))
theorem apart2 {p q o o' : Nat} {k : IntKind} {x : Int} (h : p ≠ q) : cApart (idsOf [ptr p o]) (idsOf [ptr q o', .int k x]) := by
  show apartIds [p] [q] = true
  have e : Nat.beq p q = false := by
    cases hb : Nat.beq p q with
    | false => rfl
    | true => exact absurd (Nat.eq_of_beq_eq_true hb) h
  simp [apartIds, allN_eq, memN, e]
def jPick (x y : Row) : Prop := 0 < x.bodies.length ∧ (y.bodies.length = 0 ∨ y.first < x.first)
instance (x y : Row) : Decidable (jPick x y) := by unfold jPick; infer_instance
/-- what stands there: which of both, and its row -/
noncomputable def jStand (m : Mp) (a b : Int) : Row := if jPick (fStands (m.secs a)) (fStands (m.secs b)) then fStands (m.secs a) else fStands (m.secs b)
noncomputable def jOpen (m : Mp) (a b : Int) : Jn := ⟨a, b, if jPick (fStands (m.secs a)) (fStands (m.secs b)) then 0 else 1, (jStand m a b).last, 0, false⟩
theorem bJn (pm : Nat) (a b : Int) : (buildC P 54).f [(0, ptr pm 0), (1, agg [int a, int b]), (2, .int .i64 1)] = some (agg (jv pm ⟨a, b, 1, 0, 0, false⟩)) := by kernel_rfl
theorem bPair (a b : Int) : (buildC P 29).f [(0, int a), (1, int b)] = some (agg [int a, int b]) := by kernel_rfl
/-- a slice of slices of bytes, and what they hold -/
structure OwnBs (Δ : List (Nat × Blk)) (vb : Value) (vals : List Value) (bs : List (List Int)) : Prop where
  o : Own 1 vb bs.length vals
  r : RdBs Δ vals bs
theorem row_one {vb : Value} {n : Nat} {vals : List Value} (h : Own 1 vb n vals) {r : Row} : (rowV vb r).all oneCell = true := by
  rcases h with ⟨rfl, _, _⟩ | ⟨p, rfl | rfl, _⟩ <;> rfl
theorem own_sl {vb : Value} {n : Nat} {vals : List Value} (h : Own 1 vb n vals) : ∃ a k c, vb = .slice a k c := by
  rcases h with ⟨rfl, _, _⟩ | ⟨p, rfl | rfl, _⟩ <;> exact ⟨_, _, _, rfl⟩
set_option maxHeartbeats 2000000 in
theorem jOpen_spec {a b : Int} (ok : m.Ok) (ha : ∀ s ∈ m.secs a, By s) (hb : ∀ s ∈ m.secs b, By s) (hO : St H (Γ ++ MW L m))
    (hk : ∀ H' Δ vb vals pj, St H' ((((Γ ++ Δ) ++ outB vb vals) ++ JB pj L.pm (jOpen m a b)) ++ MW L m) → OwnBs Δ vb vals (jStand m a b).bodies → K (.tuple [ptr pj 0, vb].toArray) H') :
    wCall P n_journal_Open [ptr L.pm 0, int a, int b] H K := by
  apply journal_Open_ok; unfold journal_Open
  refine opP_i (bPair _ _) ?_
  refine opP_i (bJn _ _ _) ?_
  refine new_at hO ?_
  clear hO
  intro pj H hO
  replace hO : St H ((Γ ++ MW L m) ++ JB pj L.pm ⟨a, b, 1, 0, 0, false⟩) := hO
  replace hO := hO.rot
  refine stands_spec ok ha hO ?_
  clear hO
  intro H Δ1 v1 vals1 hO own1 rd1
  refine stands_spec ok hb hO ?_
  clear hO
  intro H Δ2 v2 vals2 hO own2 rd2
  have hf1 : (fStands (m.secs a)).last < 2 ^ 64 ∨ True := .inr trivial
  unfold jOpen jStand at hk
  generalize fStands (m.secs a) = X at *
  generalize fStands (m.secs b) = Y at *
  rw [zcRow]
  refine new_at hO ?_
  clear hO
  intro q9 H hO
  refine new_at hO ?_
  clear hO
  intro q10 H hO
  rw [List.append_assoc _ [_]] at hO
  obtain ⟨B, hB, hj⟩ : ∃ B, B = ((((((Γ ++ JB pj L.pm ⟨a, b, 1, 0, 0, false⟩) ++ Δ1) ++ outB v1 vals1) ++ Δ2) ++ outB v2 vals2) ++ MW L m) ∧ B[Γ.length + 0]? = some (pj, ⟨jv L.pm ⟨a, b, 1, 0, 0, false⟩, true⟩) := ⟨_, rfl, at_l (at_l (at_l (at_l (at_l (at_r rfl)))))⟩
  rw [← hB] at hO
  refine storeAll_at hO (B.length + 0) (at_r rfl) rfl (show (rowV v1 X).length = 3 from rfl) (row_one own1) ?_
  clear hO
  intro H hO
  replace hO : St H (B ++ [(q9, ⟨rowV v1 X, true⟩), (q10, ⟨rowV nilSl row0, true⟩)]) := hO.set_r
  refine storeAll_at hO (B.length + 1) (at_r rfl) rfl (show (rowV v2 Y).length = 3 from rfl) (row_one own2) ?_
  clear hO
  intro H hO
  replace hO : St H (B ++ [(q9, ⟨rowV v1 X, true⟩), (q10, ⟨rowV v2 Y, true⟩)]) := hO.set_r
  have fin1 : ∀ {H : Heap} {t' : Jn} {R : List (Nat × Blk)}, St H (B.set (Γ.length + 0) (pj, ⟨jv L.pm t', true⟩) ++ R) → St H ((((Γ ++ Δ1) ++ outB v1 vals1) ++ JB pj L.pm t') ++ MW L m) := by
    intro H t' R h
    have h2 := h.left
    rw [hB, List.set_append_left _ _ (by simp), List.set_append_left _ _ (by simp), List.set_append_left _ _ (by simp), List.set_append_left _ _ (by simp), List.set_append_left _ _ (by simp), Go.Ab.set_r] at h2
    have h3 : St H ((((Γ ++ JB pj L.pm t') ++ Δ1) ++ outB v1 vals1) ++ MW L m) := h2.sub (List.Sublist.append (by rw [List.append_assoc _ Δ2]; exact List.sublist_append_left _ _) (List.Sublist.refl _))
    refine h3.perm (List.Perm.append_right _ ?_)
    rw [List.append_assoc _ Δ1, List.append_assoc _ Δ1, List.append_assoc Γ, List.append_assoc Γ]
    exact List.Perm.append_left _ List.perm_append_comm
  have fin2 : ∀ {H : Heap} {t' : Jn} {R : List (Nat × Blk)}, St H (B.set (Γ.length + 0) (pj, ⟨jv L.pm t', true⟩) ++ R) → St H ((((Γ ++ Δ2) ++ outB v2 vals2) ++ JB pj L.pm t') ++ MW L m) := by
    intro H t' R h
    have h2 := h.left
    rw [hB, List.set_append_left _ _ (by simp), List.set_append_left _ _ (by simp), List.set_append_left _ _ (by simp), List.set_append_left _ _ (by simp), List.set_append_left _ _ (by simp), Go.Ab.set_r] at h2
    have h3 : St H ((((Γ ++ JB pj L.pm t') ++ Δ2) ++ outB v2 vals2) ++ MW L m) := h2.sub (List.Sublist.append (List.Sublist.append (List.Sublist.append (by rw [List.append_assoc _ Δ1]; exact List.sublist_append_left _ _) (List.Sublist.refl _)) (List.Sublist.refl _)) (List.Sublist.refl _))
    refine h3.perm (List.Perm.append_right _ ?_)
    rw [List.append_assoc _ Δ2, List.append_assoc _ Δ2, List.append_assoc Γ, List.append_assoc Γ]
    exact List.Perm.append_left _ List.perm_append_comm
  refine join_with (fun l' H' => l' = [ptr pj 0, ptr q10 0] ∧ (jPick X Y → St H' (B.set (Γ.length + 0) (pj, ⟨jv L.pm ⟨a, b, 0, 0, 0, false⟩, true⟩) ++ [(q9, ⟨rowV v1 X, true⟩), (q10, ⟨rowV v1 X, true⟩)])) ∧ (¬ jPick X Y → St H' (B ++ [(q9, ⟨rowV v1 X, true⟩), (q10, ⟨rowV v2 Y, true⟩)]))) ?_ ?_
  · refine join_with (fun l' H' => l' = [ptr pj 0, ptr q9 0, ptr q10 0, .bool (decide (jPick X Y))] ∧ H' = H) ?_ ?_
    · refine opP_i offPtr_ptr ?_
      refine load_at hO (B.length + 0) (at_r rfl) (v := v1) rfl ?_
      refine opW_i own1.lenSl ?_
      refine opP_i bin_gtr ?_
      refine wIf_dec (fun h => ?_) (fun h => ?_)
      · rw [decide_eq_true h]
        refine opP_i offPtr_ptr ?_
        refine load_at hO (B.length + 1) (at_r rfl) (v := v2) rfl ?_
        refine opW_i own2.lenSl ?_
        refine opP_i bin_eql ?_
        refine wIf_dec (fun h2 => ?_) (fun h2 => ?_)
        · rw [decide_eq_true h2]
          refine opP_i pick_true ?_
          refine opP_i pick_true ?_
          exact ⟨by rw [decide_eq_true (show jPick X Y from ⟨by omega, .inl (by omega)⟩)], rfl⟩
        · rw [decide_eq_false h2]
          refine opP_i offPtr_ptr ?_
          refine load_at hO (B.length + 0) (at_r rfl) (v := uint .u64 X.first) rfl ?_
          refine opP_i offPtr_ptr ?_
          refine load_at hO (B.length + 1) (at_r rfl) (v := uint .u64 Y.first) rfl ?_
          refine opP_i bin_gtr ?_
          refine opP_i pick_false ?_
          refine opP_i pick_true ?_
          refine ⟨?_, rfl⟩
          rw [decide_eq_decide.2 (show ((Y.first : Int) < X.first) ↔ jPick X Y from ⟨fun h3 => ⟨by omega, .inr (by omega)⟩, fun h3 => by rcases h3.2 with h4 | h4 <;> omega⟩)]
      · rw [decide_eq_false h]
        refine opP_i pick_false ?_
        exact ⟨by rw [decide_eq_false (show ¬ jPick X Y from fun h2 => by have := h2.1; omega)], rfl⟩
    rintro l' H' ⟨rfl, rfl⟩
    try simp only [nth_zero, nth_succ]
    refine wIf_dec (fun h => ?_) (fun h => ?_)
    · refine loadAll_at hO (B.length + 0) (at_r rfl) rfl (by omega) ?_
      refine opP_i nilCheck_ptr ?_
      refine opP_i offPtr_ptr ?_
      have hne := St.ne hO (i := B.length + 0) (j := Γ.length + 0) (at_r rfl) (at_l hj) (by have := (List.getElem?_eq_some_iff.1 hj).1; omega)
      refine store1_at hO (Γ.length + 0) (at_l hj) rfl (show 3 < 7 by omega) (show _ = jv L.pm ⟨a, b, 0, 0, 0, false⟩ from rfl) ?_
      clear hO
      intro H hO
      rw [List.set_append_left _ _ ((List.getElem?_eq_some_iff.1 hj).1)] at hO
      refine ⟨apart2 hne, ?_⟩
      refine storeAll_at hO (_ + 1) (at_r rfl) rfl (show (rowV v1 X).length = 3 from rfl) (row_one own1) ?_
      clear hO
      intro H hO
      exact ⟨trivial, fun _ => hO.set_r, fun h2 => absurd h h2⟩
    · exact ⟨trivial, fun h2 => absurd h2 h, fun _ => hO⟩
  clear hO
  rintro l' H ⟨rfl, hOp, hOn⟩
  try simp only [nth_zero, nth_succ]
  obtain ⟨a1, n1, c1, e1⟩ := own_sl own1
  obtain ⟨a2, n2, c2, e2⟩ := own_sl own2
  by_cases h : jPick X Y
  · have hO := hOp h
    rw [if_pos h, if_pos h] at hk
    generalize hB2 : B.set (Γ.length + 0) (pj, ⟨jv L.pm ⟨a, b, 0, 0, 0, false⟩, true⟩) = B2 at *
    refine opP_i offPtr_ptr ?_
    refine load_at hO (B2.length + 1) (at_r rfl) (v := uint .u64 X.last) rfl ?_
    refine opP_i nilCheck_ptr ?_
    refine opP_i offPtr_ptr ?_
    have hj2 : B2[Γ.length + 0]? = some (pj, ⟨jv L.pm ⟨a, b, 0, 0, 0, false⟩, true⟩) := by rw [← hB2]; exact set_at hj
    refine store1_at hO (Γ.length + 0) (at_l hj2) rfl (show 4 < 7 by omega) (show _ = jv L.pm ⟨a, b, 0, X.last, 0, false⟩ from rfl) ?_
    clear hO
    intro H hO
    rw [List.set_append_left _ _ ((List.getElem?_eq_some_iff.1 hj2).1), ← hB2, List.set_set] at hO
    refine opP_i offPtr_ptr ?_
    refine load_at hO (_ + 1) (at_r rfl) (v := v1) rfl ?_
    exact hk H Δ1 v1 vals1 pj (fin1 hO) ⟨own1, rd1⟩
  · have hO := hOn h
    rw [if_neg h, if_neg h] at hk
    refine opP_i offPtr_ptr ?_
    refine load_at hO (B.length + 1) (at_r rfl) (v := uint .u64 Y.last) rfl ?_
    refine opP_i nilCheck_ptr ?_
    refine opP_i offPtr_ptr ?_
    refine store1_at hO (Γ.length + 0) (at_l hj) rfl (show 4 < 7 by omega) (show _ = jv L.pm ⟨a, b, 1, Y.last, 0, false⟩ from rfl) ?_
    clear hO
    intro H hO
    rw [List.set_append_left _ _ ((List.getElem?_eq_some_iff.1 hj).1)] at hO
    refine opP_i offPtr_ptr ?_
    refine load_at hO (_ + 1) (at_r rfl) (v := v2) rfl ?_
    exact hk H Δ2 v2 vals2 pj (fin2 hO) ⟨own2, rd2⟩
end J
set_option linter.unusedVariables false
set_option linter.unusedSimpArgs false
set_option maxRecDepth 100000
namespace J
open Go Go.Ab
variable {xs ys bs body : List Int} {ss tt pre rest : List (List Int)} {s : List Int} {kind seq : Nat} {out : Row} {want : Nat}
/-! frames, plainly: what was put is got -/
theorem leV_leN : ∀ (y n : Nat), n < 256 ^ y → leV (leN y n) = n
  | 0, n, h => by
    have : n = 0 := by simpa using h
    subst this; rfl
  | y + 1, n, h => by
    have e : leN (y + 1) n = ((n % 256 : Nat) : Int) :: leN y (n / 256) := by
      unfold leN
      rw [List.range_succ_eq_map, List.map_cons, List.map_map]
      congr 1
      · simp
      · apply List.map_congr_left
        intro i _
        show ((n / 256 ^ (i + 1) % 256 : Nat) : Int) = _
        rw [Nat.div_div_eq_div_mul, Nat.pow_succ, Nat.mul_comm (256 ^ i)]
    rw [e]
    show ((n % 256 : Nat) : Int).toNat + 256 * leV (leN y (n / 256)) = n
    rw [leV_leN y (n / 256) (by rw [Nat.pow_succ] at h; omega)]
    omega
theorem chunkS_nil : chunkS [] = [] := rfl
theorem chunkS_cons {b : List Int} (h : 0 < b.length) : chunkS b = padS (b.take 63) :: chunkS (b.drop 63) := by
  unfold chunkS
  have e : nCh b.length = nCh (b.drop 63).length + 1 := by rw [List.length_drop]; unfold nCh; omega
  rw [e, List.range_succ_eq_map, List.map_cons, List.map_map]
  congr 1
  apply List.map_congr_left
  intro i _
  show padS ((b.drop (63 * (i + 1))).take 63) = _
  rw [List.drop_drop, Nat.mul_add, Nat.mul_one, Nat.add_comm]
theorem padS_take {c : List Int} (h : c.length ≤ 63) : (padS c).take 63 = c ++ List.replicate (63 - c.length) 255 := by
  unfold padS
  rw [← List.append_assoc, List.take_left' (by simp; omega)]
theorem padS_last {c : List Int} (h : c.length ≤ 63) : (padS c).getD 63 1 = 0 := by
  unfold padS
  rw [← List.append_assoc, List.getD_eq_getElem?_getD, List.getElem?_append_right (by simp; omega)]
  have : 63 - (c ++ List.replicate (63 - c.length) (255 : Int)).length = 0 := by simp; omega
  rw [this]; rfl
theorem plainS_chunk : ∀ (n : Nat) (b : List Int), b.length ≤ n → ∃ k, plainS (chunkS b) = b ++ List.replicate k 255
  | 0, b, h => by
    have : b = [] := List.length_eq_zero_iff.1 (by omega)
    subst this
    exact ⟨0, rfl⟩
  | n + 1, b, h => by
    by_cases h0 : b.length = 0
    · have : b = [] := List.length_eq_zero_iff.1 h0
      subst this
      exact ⟨0, rfl⟩
    · rw [chunkS_cons (by omega)]
      show ∃ k, (padS (b.take 63)).take 63 ++ plainS (chunkS (b.drop 63)) = _
      rw [padS_take (by rw [List.length_take]; omega)]
      obtain ⟨k, hk⟩ := plainS_chunk n (b.drop 63) (by rw [List.length_drop]; omega)
      rw [hk]
      by_cases h6 : b.length < 63
      · have e1 : b.drop 63 = [] := List.drop_eq_nil_of_le (by omega)
        have e2 : b.take 63 = b := List.take_of_length_le (by omega)
        rw [e1, e2, List.nil_append]
        exact ⟨63 - b.length + k, by rw [List.append_assoc, List.replicate_append_replicate]⟩
      · refine ⟨k, ?_⟩
        rw [List.length_take, Nat.min_eq_left (by omega), Nat.sub_self, List.replicate_zero, List.append_nil, ← List.append_assoc, List.take_append_drop]
theorem fPut_eq (hl : body.length ≤ 4000) : fPut kind seq body = chunkS (sealB kind seq body) := if_neg (by omega)
theorem fPut_many (hl : body.length ≤ 4000) : (fPut kind seq body).length = (body.length + 79) / 63 := by
  rw [fPut_eq hl, chunkS_len, sealB_len]; unfold nCh; omega
theorem fSize_eq {n : Nat} (h : n ≤ 4000) : fSize n = (n + 79) / 63 := by
  unfold fSize
  rw [if_neg (by omega), Int.toNat_natCast]
theorem fPut_size : (fPut kind seq body).length = fSize body.length := by
  by_cases h : body.length ≤ 4000
  · rw [fPut_many h, fSize_eq h]
  · unfold fPut fSize
    rw [if_pos (by omega), if_pos (by omega)]; rfl
/-- the head of the first sector -/
theorem fPut_head (hl : body.length ≤ 4000) : ∃ s r, fPut kind seq body = s :: r ∧ s.take 13 = 66 :: 74 :: (kind : Int) :: (leN 8 seq ++ leN 2 body.length) := by
  rw [fPut_eq hl, chunkS_cons (by rw [sealB_len]; omega)]
  refine ⟨_, _, rfl, ?_⟩
  have h1 : ((sealB kind seq body).take 63).take 13 = 66 :: 74 :: (kind : Int) :: (leN 8 seq ++ leN 2 body.length) := by
    rw [List.take_take, show min 13 63 = 13 from rfl]
    unfold sealB
    rw [List.append_assoc, List.take_left' (by simp [leN_len])]
    simp
  unfold padS
  rw [List.take_append_of_le_length (by rw [List.length_take, sealB_len]; omega)]
  exact h1
theorem head_get {n : Nat} (h : s.take 13 = 66 :: 74 :: (kind : Int) :: (leN 8 seq ++ leN 2 n)) (hk : kind < 256) (hq : seq < 2 ^ 64) (hn : n < 65536) : s.take 2 = [66, 74] ∧ hKind s = kind ∧ hSeq s = seq ∧ hLen s = n := by
  have e0 : s.take 2 = (s.take 13).take 2 := by rw [List.take_take]; rfl
  have e1 : (s.drop 2).take 1 = ((s.take 13).drop 2).take 1 := by rw [List.drop_take, List.take_take]; rfl
  have e2 : (s.drop 3).take 8 = ((s.take 13).drop 3).take 8 := by rw [List.drop_take, List.take_take]; rfl
  have e3 : (s.drop 11).take 2 = ((s.take 13).drop 11).take 2 := by rw [List.drop_take, List.take_take]; rfl
  unfold hKind hSeq hLen
  rw [e0, e1, e2, e3, h]
  refine ⟨rfl, ?_, ?_, ?_⟩
  · show ((kind : Nat) : Int).toNat + 256 * 0 = kind
    omega
  · show leV ((leN 8 seq ++ leN 2 n).take 8) = seq
    rw [List.take_left' (leN_len 8 seq)]
    exact leV_leN 8 seq hq
  · show leV (((leN 8 seq ++ leN 2 n).drop 8).take 2) = n
    rw [List.drop_left' (leN_len 8 seq), List.take_of_length_le (by rw [leN_len]; omega)]
    exact leV_leN 2 n hn
theorem sealB_mid : ∃ c, (sealB kind seq body).drop 13 = body ++ c := by
  unfold sealB
  rw [List.append_assoc, List.drop_left' (by simp [leN_len])]
  exact ⟨_, rfl⟩
/-- what was put, is got; whatever lies behind -/
theorem fGet_put (hl : body.length ≤ 4000) (hk : kind < 256) (hq : seq < 2 ^ 64) : fGet (fPut kind seq body ++ rest) = ⟨kind, seq, body, (fPut kind seq body).length⟩ := by
  obtain ⟨s, r, e, hs⟩ := fPut_head (kind := kind) (seq := seq) hl
  obtain ⟨g1, g2, g3, g4⟩ := head_get hs hk hq (by omega)
  have hlen := fPut_size (kind := kind) (seq := seq) (body := body)
  have hsz := fSize_eq hl
  have htake : (fPut kind seq body ++ rest).take (fSize body.length) = fPut kind seq body := List.take_left' hlen
  obtain ⟨c, hc⟩ := sealB_mid (kind := kind) (seq := seq) (body := body)
  obtain ⟨k, hp⟩ := plainS_chunk _ (sealB kind seq body) (Nat.le_refl _)
  have hbody : fBody (fPut kind seq body ++ rest) s = body := by
    unfold fBody
    rw [g4, htake, fPut_eq hl, hp, List.drop_append_of_le_length (by rw [sealB_len]; omega), hc, List.append_assoc, List.take_left]
  have hbad : ¬ fBad (fPut kind seq body ++ rest) s := by
    unfold fBad
    rw [g4]
    rintro (h | h | h)
    · exact h g1
    · omega
    · rw [List.length_append, hlen] at h; omega
  have hu : fPut kind seq body ++ rest = s :: (r ++ rest) := by rw [e]; rfl
  unfold fGet
  rw [hu] at hbody hbad htake ⊢
  simp only
  rw [if_neg hbad, hbody, g2, g3, g4, htake, hlen]
  rw [if_neg (fun h => h rfl)]
/-- what is got: its head, and whole sectors -/
theorem fGet_inv (h : (fGet ss).many ≠ 0) : ∃ s r, ss = s :: r ∧ s.take 2 = [66, 74] ∧ (fGet ss).seq = hSeq s ∧ (fGet ss).many = fSize (hLen s) ∧ ∀ x ∈ ss.take (fGet ss).many, x.getD 63 1 = 0 := by
  match ss, h with
  | [], h => exact absurd rfl h
  | s :: r, h =>
    refine ⟨s, r, rfl, ?_⟩
    unfold fGet at h ⊢
    simp only at h ⊢
    by_cases hb : fBad (s :: r) s
    · rw [if_pos hb] at h; exact absurd rfl h
    rw [if_neg hb] at h ⊢
    by_cases hp : fPut (hKind s) (hSeq s) (fBody (s :: r) s) ≠ (s :: r).take (fSize (hLen s))
    · rw [if_pos hp] at h; exact absurd rfl h
    rw [if_neg hp] at h ⊢
    refine ⟨Decidable.not_not.1 fun h2 => hb (.inl h2), rfl, rfl, ?_⟩
    have hp := Classical.not_not.1 hp
    simp only
    rw [← hp]
    intro x hx
    unfold fPut at hx
    split at hx
    · cases hx
    · obtain ⟨k, _, rfl⟩ := List.mem_map.1 hx
      exact padS_last (by rw [List.length_take]; omega)
theorem fGet_head_ne (h : ∀ s r, ss = s :: r → s.take 2 ≠ [66, 74]) : (fGet ss).many = 0 := by
  by_cases h0 : (fGet ss).many = 0
  · exact h0
  · obtain ⟨s, r, e, h2, _⟩ := fGet_inv h0
    exact absurd h2 (h s r e)
theorem fGet_blank {n : Nat} : (fGet (List.replicate n blank)).many = 0 := by
  apply fGet_head_ne
  intro s r e
  have : s ∈ List.replicate n blank := by rw [e]; exact List.mem_cons_self
  rw [List.eq_of_mem_replicate this]
  decide
/-! what stands, plainly -/
theorem go_fuel : ∀ (k n want : Nat) (ss : List (List Int)) (out : Row), ss.length ≤ k → ss.length < n → standsGo n want ss out = standsGo (ss.length + 1) want ss out
  | k, 0, want, ss, out, _, h => by omega
  | k, n + 1, want, ss, out, hk, h => by
    show (if stStop want (fGet ss) out then out else _) = (if stStop want (fGet ss) out then out else _)
    by_cases hs : stStop want (fGet ss) out
    · rw [if_pos hs, if_pos hs]
    · rw [if_neg hs, if_neg hs]
      have hm : (fGet ss).many ≠ 0 := fun h0 => hs (.inl h0)
      have hle := fGet_many hm
      have hd : (ss.drop (fGet ss).many).length < ss.length := by rw [List.length_drop]; omega
      match k, hk with
      | 0, hk => omega
      | k + 1, hk =>
        rw [go_fuel k n 2 _ _ (by omega) (by omega), go_fuel k ss.length 2 _ _ (by omega) (by omega)]
noncomputable def goS (want : Nat) (ss : List (List Int)) (out : Row) : Row := standsGo (ss.length + 1) want ss out
theorem goS_eq : goS want ss out = if stStop want (fGet ss) out then out else goS 2 (ss.drop (fGet ss).many) (stNext want (fGet ss) out) := by
  show (if stStop want (fGet ss) out then out else _) = _
  by_cases hs : stStop want (fGet ss) out
  · rw [if_pos hs, if_pos hs]
  · rw [if_neg hs, if_neg hs]
    have hm : (fGet ss).many ≠ 0 := fun h0 => hs (.inl h0)
    have hle := fGet_many hm
    exact go_fuel _ _ _ _ _ (Nat.le_refl _) (by rw [List.length_drop]; omega)
theorem fStands_goS : fStands ss = goS 1 ss row0 := rfl
theorem goS_stop (h : stStop want (fGet ss) out) : goS want ss out = out := by rw [goS_eq, if_pos h]
theorem goS_blank {n : Nat} : goS want (List.replicate n blank) out = out := goS_stop (.inl fGet_blank)
theorem goS_first : ∀ (k : Nat) (ss : List (List Int)) (out : Row), ss.length ≤ k → (goS 2 ss out).first = out.first ∧ ∃ l, (goS 2 ss out).bodies = out.bodies ++ l
  | k, ss, out, hk => by
    rw [goS_eq]
    by_cases hs : stStop 2 (fGet ss) out
    · rw [if_pos hs]; exact ⟨rfl, [], by simp⟩
    · rw [if_neg hs]
      have hm : (fGet ss).many ≠ 0 := fun h0 => hs (.inl h0)
      have hle := fGet_many hm
      match k, hk with
      | 0, hk => omega
      | k + 1, hk =>
        obtain ⟨h1, l, h2⟩ := goS_first k (ss.drop (fGet ss).many) (stNext 2 (fGet ss) out) (by rw [List.length_drop]; omega)
        refine ⟨h1, [(fGet ss).body] ++ l, ?_⟩
        rw [h2]
        show (out.bodies ++ [_]) ++ l = _
        simp
/-- what stands begins with what is got first -/
theorem stands_cases : (fStands ss).bodies = [] ∨ ((fGet ss).many ≠ 0 ∧ (fStands ss).first = (fGet ss).seq) := by
  rw [fStands_goS, goS_eq]
  by_cases hs : stStop 1 (fGet ss) row0
  · rw [if_pos hs]; exact .inl rfl
  · rw [if_neg hs]
    have hm : (fGet ss).many ≠ 0 := fun h0 => hs (.inl h0)
    obtain ⟨h1, _⟩ := goS_first _ (ss.drop (fGet ss).many) (stNext 1 (fGet ss) row0) (Nat.le_refl _)
    exact .inr ⟨hm, h1⟩
theorem stands_none (h : (fGet ss).many = 0) : fStands ss = row0 := by rw [fStands_goS]; exact goS_stop (.inl h)
/-- sectors that stand, whatever lies behind them -/
def Pre (pre : List (List Int)) (r : Row) : Prop := ∀ rest, fStands (pre ++ rest) = goS 2 rest r
theorem pre_base (hl : body.length ≤ 4000) (hq : seq < 2 ^ 64) : Pre (fPut 1 seq body) ⟨[body], seq, seq⟩ := by
  intro rest
  have hg := fGet_put (kind := 1) (seq := seq) (rest := rest) hl (by omega) hq
  have hp : (fPut 1 seq body).length ≠ 0 := by rw [fPut_many hl]; omega
  rw [fStands_goS, goS_eq, hg]
  rw [if_neg (by rintro (h | h | h); exact hp h; exact h rfl; cases h.1)]
  show goS 2 ((fPut 1 seq body ++ rest).drop _) _ = _
  rw [List.drop_left]; rfl
theorem pre_next {r : Row} (h : Pre pre r) (hl : body.length ≤ 4000) (hq : r.last + 1 < 2 ^ 64) : Pre (pre ++ fPut 2 (r.last + 1) body) ⟨r.bodies ++ [body], r.first, r.last + 1⟩ := by
  intro rest
  have hg := fGet_put (kind := 2) (seq := r.last + 1) (rest := rest) hl (by omega) hq
  have hp : (fPut 2 (r.last + 1) body).length ≠ 0 := by rw [fPut_many hl]; omega
  rw [List.append_assoc, h, goS_eq, hg]
  rw [if_neg (by rintro (h | h | h); exact hp h; exact h rfl; rcases h.2 with h | h; exact absurd h (by show ¬ r.last + 1 = 0; omega); exact h (by show r.last + 1 - 1 = r.last; omega))]
  show goS 2 ((fPut 2 (r.last + 1) body ++ rest).drop _) _ = _
  rw [List.drop_left]; rfl
theorem Pre.stands {r : Row} {n : Nat} (h : Pre pre r) : fStands (pre ++ List.replicate n blank) = r := by rw [h]; exact goS_blank
theorem Pre.stop {r : Row} (h : Pre pre r) (hs : (fGet rest).many = 0) : fStands (pre ++ rest) = r := by rw [h]; exact goS_stop (.inl hs)
end J
set_option linter.unusedVariables false
set_option linter.unusedSimpArgs false
set_option maxRecDepth 100000
namespace J
open Go Go.Ab
variable {d d' : Dv} {m : Mp} {s : List Int} {l : List (List Int)} {i : Nat}
/-! a device, plainly: what is kept of a sector, what is seen, how often it was erased -/
def kp (d : Dv) (i : Nat) : List Int := (d.cells.getD i zCell).kept
def sn (d : Dv) (i : Nat) : List Int := (d.cells.getD i zCell).seen
def wr (d : Dv) (i : Nat) : Int := (d.cells.getD i zCell).wear
def keys (l : List (Nat × List Int)) : List Nat := l.map (·.1)
theorem keys_mem {l : List (Nat × List Int)} {x : Nat × List Int} (h : x ∈ l) : x.1 ∈ keys l := List.mem_map.2 ⟨x, h, rfl⟩
theorem keys_app {a b : List (Nat × List Int)} : keys (a ++ b) = keys a ++ keys b := List.map_append
theorem keys_uniq {l : List (Nat × List Int)} (h : (keys l).Nodup) {i : Nat} {a b : List Int} (ha : (i, a) ∈ l) (hb : (i, b) ∈ l) : a = b := by
  induction l with
  | nil => cases ha
  | cons x r ih =>
    have h' : x.1 ∉ keys r ∧ (keys r).Nodup := List.nodup_cons.1 h
    rcases List.mem_cons.1 ha with ea | ha2
    · rcases List.mem_cons.1 hb with eb | hb2
      · rw [← ea] at eb; cases eb; rfl
      · rw [← ea] at h'; exact absurd (keys_mem hb2) h'.1
    · rcases List.mem_cons.1 hb with eb | hb2
      · rw [← eb] at h'; exact absurd (keys_mem ha2) h'.1
      · exact ih h'.2 ha2 hb2
/-- each sector waits at most once; what is seen is what waits, or what is kept -/
structure Wt (d : Dv) : Prop where
  nd : (keys d.done).Nodup
  lt : ∀ x ∈ d.done, x.1 < d.cells.length
  p : ∀ i w, (i, w) ∈ d.done → sn d i = w
  n : ∀ i, i ∉ keys d.done → sn d i = kp d i
theorem getD_set {l : List Cell} {i j : Nat} {c : Cell} (h : i < l.length) : (l.set i c).getD j zCell = if i = j then c else l.getD j zCell := by
  rw [List.getD_eq_getElem?_getD, List.getElem?_set, List.getD_eq_getElem?_getD]
  by_cases e : i = j
  · subst e; rw [if_pos rfl, if_pos h, if_pos rfl]; rfl
  · rw [if_neg e, if_neg e]
/-- the same cells, and nothing else that counts -/
structure Same (d d' : Dv) : Prop where
  c : d'.cells = d.cells
  w : d'.done = d.done
  m : d'.most = d.most
theorem Same.kp (h : Same d d') : kp d' i = kp d i := by unfold J.kp; rw [h.c]
theorem Same.sn (h : Same d d') : sn d' i = sn d i := by unfold J.sn; rw [h.c]
theorem Same.wr (h : Same d d') : wr d' i = wr d i := by unfold J.wr; rw [h.c]
theorem Same.wt (h : Same d d') (hw : Wt d) : Wt d' := ⟨by rw [h.w]; exact hw.nd, by rw [h.w, h.c]; exact hw.lt, by rw [h.w]; intro i w hi; rw [h.sn]; exact hw.p i w hi, by rw [h.w]; intro i hi; rw [h.sn, h.kp]; exact hw.n i hi⟩
theorem step_same : Same d d.step := ⟨rfl, rfl, rfl⟩
theorem step_up (h : d.down = false) (hb : d.budget ≠ 0) : d.step.down = false := by
  show (d.down || decide (d.budget = 0)) = false
  rw [h, decide_eq_false hb]; rfl
theorem step_dn (h : d.step.down = true) (hd : d.down = false) : d.budget = 0 := by
  have h : (d.down || decide (d.budget = 0)) = true := h
  rw [hd] at h
  simpa using h
theorem step_bud (h : d.budget < 0) : d.step.budget = d.budget := if_neg (by omega)
/-- a sector's put: something more waits -/
structure Put1 (d : Dv) (i : Nat) (s : List Int) (d' : Dv) : Prop where
  len : d'.cells.length = d.cells.length
  m : d'.most = d.most
  w : d'.done = d.done ++ [(i, s)]
  k : ∀ j, kp d' j = kp d j
  s : ∀ j, sn d' j = if i = j then s else sn d j
  up : d'.down = false
  bud : d.budget < 0 → d'.budget = d.budget
theorem Put1.wt (h : Put1 d i s d') (hw : Wt d) (hi : i < d.cells.length) (hn : i ∉ keys d.done) : Wt d' := by
  refine ⟨?_, ?_, ?_, ?_⟩
  · rw [h.w, keys_app, List.nodup_append]
    refine ⟨hw.nd, by simp [keys], fun a ha b hb => ?_⟩
    have : b = i := by simpa [keys] using hb
    subst this
    intro e; subst e; exact hn ha
  · rw [h.w, h.len]
    intro x hx
    rcases List.mem_append.1 hx with hx | hx
    · exact hw.lt x hx
    · have : x = (i, s) := by simpa using hx
      subst this; exact hi
  · rw [h.w]
    intro j w hj
    rw [h.s]
    rcases List.mem_append.1 hj with hj | hj
    · rw [if_neg (fun e : i = j => hn (by rw [e]; exact keys_mem hj))]; exact hw.p j w hj
    · have : (j, w) = (i, s) := by simpa using hj
      cases this; rw [if_pos rfl]
  · rw [h.w]
    intro j hj
    rw [keys_app, List.mem_append, not_or] at hj
    rw [h.s, h.k, if_neg (fun e => hj.2 (by subst e; simp [keys]))]; exact hw.n j hj.1
theorem put_one (hi : i < d.cells.length) (hu : d.down = false) (s : List Int) {d0 : Dv} (h0 : ∀ j, kp d j = kp d0 j) (h1 : ∀ j, sn d j = sn d0 j) (h2 : d.done = d0.done) (h3 : d.most = d0.most) (h4 : d.cells.length = d0.cells.length) (h5 : d0.budget < 0 → d.budget = d0.budget) : Put1 d0 i s (d.put (i : Int) s) := by
  have hd : d.cell (i : Int) = d.cells.getD i zCell := by unfold Dv.cell; rw [Int.toNat_natCast]
  refine ⟨?_, h3, ?_, fun j => ?_, fun j => ?_, hu, h5⟩
  · show (d.cells.set _ _).length = _; rw [List.length_set, h4]
  · show d.done ++ [((i : Int).toNat, s)] = _; rw [h2, Int.toNat_natCast]
  · rw [← h0]; unfold kp
    show ((d.cells.set (i : Int).toNat _).getD j zCell).kept = _
    rw [Int.toNat_natCast, getD_set hi]
    by_cases e : i = j
    · subst e; rw [if_pos rfl, hd]
    · rw [if_neg e]
  · rw [← h1]; unfold sn
    show ((d.cells.set (i : Int).toNat _).getD j zCell).seen = _
    rw [Int.toNat_natCast, getD_set hi]
    by_cases e : i = j
    · subst e; rw [if_pos rfl, if_pos rfl]
    · rw [if_neg e, if_neg e]
theorem has_nat (hi : i < d.cells.length) : d.has (i : Int) := ⟨by omega, by omega⟩
/-- power went out: the same, and down -/
structure Out (d d' : Dv) : Prop where
  s : Same d d'
  dn : d'.down = true
  b : 0 ≤ d.budget
theorem erase_cases (hi : i < d.cells.length) (hu : d.down = false) (hw : wr d i < d.most) :
    ((d.erase i).2 = 62 ∧ Out d (d.erase i).1) ∨ ((d.erase i).2 = 0 ∧ Put1 d i blank (d.erase i).1 ∧ ∀ j, wr (d.erase i).1 j = if i = j then wr d i + 1 else wr d j) := by
  have hc : d.cell (i : Int) = d.cells.getD i zCell := by unfold Dv.cell; rw [Int.toNat_natCast]
  unfold Dv.erase
  rw [if_neg (fun h => h (has_nat hi)), if_neg (by rw [hu]; simp), if_neg (by rw [hc]; show ¬ d.most ≤ wr d i; omega)]
  by_cases h : d.step.down = true
  · rw [if_pos h]
    have hb := step_dn h hu
    exact .inl ⟨rfl, step_same, h, by omega⟩
  · rw [if_neg h]
    have h := Bool.eq_false_iff.2 h
    refine .inr ⟨rfl, ?_, fun j => ?_⟩
    · have hl : (d.step.upd (i : Int) { d.cell i with wear := (d.cell i).wear + 1 }).cells.length = d.cells.length := by show (d.cells.set _ _).length = _; rw [List.length_set]
      refine put_one (d := d.step.upd (i : Int) { d.cell i with wear := (d.cell i).wear + 1 }) (d0 := d) (by rw [hl]; exact hi) h blank (fun j => ?_) (fun j => ?_) rfl rfl hl (fun hb => step_bud hb)
      · unfold kp
        show ((d.cells.set (i : Int).toNat _).getD j zCell).kept = _
        rw [Int.toNat_natCast, getD_set hi]
        by_cases e : i = j
        · subst e; rw [if_pos rfl, hc]
        · rw [if_neg e]
      · unfold sn
        show ((d.cells.set (i : Int).toNat _).getD j zCell).seen = _
        rw [Int.toNat_natCast, getD_set hi]
        by_cases e : i = j
        · subst e; rw [if_pos rfl, hc]
        · rw [if_neg e]
    · unfold wr
      show (((d.cells.set (i : Int).toNat _).set (i : Int).toNat _).getD j zCell).wear = _
      rw [Int.toNat_natCast, getD_set (by rw [List.length_set]; exact hi)]
      by_cases e : i = j
      · subst e
        rw [if_pos rfl, if_pos rfl]
        show (((d.cells.set (i : Int).toNat _).getD (i : Int).toNat zCell)).wear = _
        rw [Int.toNat_natCast, getD_set hi, if_pos rfl, hc]
      · rw [if_neg e, if_neg e, getD_set hi, if_neg e]
theorem erase_down (hi : i < d.cells.length) (hu : d.down = true) : d.erase i = (d, 62) := by
  unfold Dv.erase
  rw [if_neg (fun h => h (has_nat hi)), if_pos hu]
theorem program_cases (hi : i < d.cells.length) (hu : d.down = false) (hb : sn d i = blank) :
    ((d.program i s).2 = 62 ∧ Out d (d.program i s).1) ∨ ((d.program i s).2 = 0 ∧ Put1 d i s (d.program i s).1 ∧ ∀ j, wr (d.program i s).1 j = wr d j) := by
  have hc : d.cell (i : Int) = d.cells.getD i zCell := by unfold Dv.cell; rw [Int.toNat_natCast]
  unfold Dv.program
  rw [if_neg (fun h => h (has_nat hi)), if_neg (by rw [hu]; simp), if_neg (by rw [hc]; show ¬ sn d i ≠ blank; rw [hb]; simp)]
  by_cases h : d.step.down = true
  · rw [if_pos h]
    have hb := step_dn h hu
    exact .inl ⟨rfl, step_same, h, by omega⟩
  · rw [if_neg h]
    have h := Bool.eq_false_iff.2 h
    refine .inr ⟨rfl, ?_, fun j => ?_⟩
    · exact put_one (d := d.step) (d0 := d) hi h s (fun j => rfl) (fun j => rfl) rfl rfl rfl (fun hb => step_bud hb)
    · unfold wr
      show ((d.cells.set (i : Int).toNat _).getD j zCell).wear = _
      rw [Int.toNat_natCast, getD_set hi]
      by_cases e : i = j
      · subst e
        rw [if_pos rfl]
        show ((d.step.cell (i : Int))).wear = _
        rw [show d.step.cell (i : Int) = d.cells.getD i zCell from hc]
      · rw [if_neg e]
/-- all that waits is kept -/
theorem keepAll_get : ∀ (l : List (Nat × List Int)) (cs : List Cell), (keys l).Nodup → (∀ x ∈ l, x.1 < cs.length) → ∀ j, ((keepAll cs l).getD j zCell).seen = (cs.getD j zCell).seen ∧ ((keepAll cs l).getD j zCell).wear = (cs.getD j zCell).wear ∧ (j ∉ keys l → ((keepAll cs l).getD j zCell).kept = (cs.getD j zCell).kept) ∧ ∀ w, (j, w) ∈ l → ((keepAll cs l).getD j zCell).kept = w
  | [], cs, _, _, j => ⟨rfl, rfl, fun _ => rfl, fun w h => by cases h⟩
  | x :: r, cs, hn, hl, j => by
    have hn : x.1 ∉ keys r ∧ (keys r).Nodup := List.nodup_cons.1 hn
    have hx := hl x List.mem_cons_self
    have hg : ∀ j, (keep1 cs x).getD j zCell = if x.1 = j then { cs.getD x.1 zCell with kept := x.2 } else cs.getD j zCell := fun j => getD_set hx
    obtain ⟨i1, i2, i3, i4⟩ := keepAll_get r (keep1 cs x) hn.2 (fun y hy => by show y.1 < (cs.set _ _).length; rw [List.length_set]; exact hl y (List.mem_cons_of_mem _ hy)) j
    show ((keepAll (keep1 cs x) r).getD j zCell).seen = _ ∧ ((keepAll (keep1 cs x) r).getD j zCell).wear = _ ∧ (_ → ((keepAll (keep1 cs x) r).getD j zCell).kept = _) ∧ ∀ w, _ → ((keepAll (keep1 cs x) r).getD j zCell).kept = w
    rw [i1, i2, hg]
    refine ⟨by split; rename_i e; subst e; rfl; rfl, by split; rename_i e; subst e; rfl; rfl, fun hj => ?_, fun w hw => ?_⟩
    · have hj : j ∉ x.1 :: keys r := hj
      rw [List.mem_cons, not_or] at hj
      rw [i3 hj.2, hg, if_neg (Ne.symm hj.1)]
    · rcases List.mem_cons.1 hw with hw | hw
      · subst hw
        rw [i3 hn.1, hg, if_pos rfl]
      · exact i4 w hw
/-- all is kept -/
structure Kept (d d' : Dv) : Prop where
  len : d'.cells.length = d.cells.length
  m : d'.most = d.most
  w : d'.done = []
  k : ∀ j, kp d' j = sn d j
  s : ∀ j, sn d' j = sn d j
  wr : ∀ j, wr d' j = wr d j
  up : d'.down = false
  bud : d.budget < 0 → d'.budget = d.budget
theorem Kept.wt (h : Kept d d') : Wt d' := ⟨by rw [h.w]; simp [keys], (by rw [h.w]; intro x hx; cases hx), (by rw [h.w]; intro i w hi; cases hi), fun i _ => by rw [h.s, h.k]⟩
theorem sync_cases (hu : d.down = false) (hw : Wt d) : (d.sync.2 = 62 ∧ Out d d.sync.1) ∨ (d.sync.2 = 0 ∧ Kept d d.sync.1) := by
  unfold Dv.sync
  rw [if_neg (by rw [hu]; simp)]
  by_cases h : d.step.down = true
  · rw [if_pos h]
    have hb := step_dn h hu
    exact .inl ⟨rfl, step_same, h, by omega⟩
  · rw [if_neg h]
    have h := Bool.eq_false_iff.2 h
    have hg := keepAll_get d.done d.cells hw.nd hw.lt
    refine .inr ⟨rfl, by show (keepAll _ _).length = _; rw [keepAll_len], rfl, rfl, fun j => ?_, fun j => (hg j).1, fun j => (hg j).2.1, h, fun hb => step_bud hb⟩
    show ((keepAll _ _).getD j zCell).kept = _
    by_cases hj : j ∈ keys d.done
    · obtain ⟨x, hx, rfl⟩ := List.mem_map.1 hj
      rw [(hg x.1).2.2.2 x.2 hx, hw.p x.1 x.2 hx]
    · rw [(hg j).2.2.1 hj, hw.n j hj]; rfl
theorem sync_down (hu : d.down = true) : d.sync = (d, 62) := by unfold Dv.sync; rw [if_pos hu]
/-! begun anew -/
/-- of what was to come, a part has come -/
def Torn (old new got : List Int) : Prop := ∃ n, n ≤ 64 ∧ got = new.take n ++ old.drop n
theorem tearAll_get : ∀ (l : List ((Nat × List Int) × Int)) (cs : List Cell), (keys (l.map (·.1))).Nodup → (∀ x ∈ l, x.1.1 < cs.length) → ∀ j, ((tearAll cs l).getD j zCell).seen = (cs.getD j zCell).seen ∧ ((tearAll cs l).getD j zCell).wear = (cs.getD j zCell).wear ∧ (j ∉ keys (l.map (·.1)) → ((tearAll cs l).getD j zCell).kept = (cs.getD j zCell).kept) ∧ ∀ w, (j, w) ∈ l.map (·.1) → Torn (cs.getD j zCell).kept w ((tearAll cs l).getD j zCell).kept
  | [], cs, _, _, j => ⟨rfl, rfl, fun _ => rfl, fun w h => by cases h⟩
  | x :: r, cs, hn, hl, j => by
    have hn : x.1.1 ∉ keys (r.map (·.1)) ∧ (keys (r.map (·.1))).Nodup := List.nodup_cons.1 hn
    have hx := hl x List.mem_cons_self
    have hg : ∀ j, (tear1 cs x.1 x.2).getD j zCell = if x.1.1 = j then { cs.getD x.1.1 zCell with kept := x.1.2.take (min x.2.toNat 64) ++ (cs.getD x.1.1 zCell).kept.drop (min x.2.toNat 64) } else cs.getD j zCell := fun j => getD_set hx
    obtain ⟨i1, i2, i3, i4⟩ := tearAll_get r (tear1 cs x.1 x.2) hn.2 (fun y hy => by rw [tear1_len]; exact hl y (List.mem_cons_of_mem _ hy)) j
    show ((tearAll (tear1 cs x.1 x.2) r).getD j zCell).seen = _ ∧ ((tearAll (tear1 cs x.1 x.2) r).getD j zCell).wear = _ ∧ (_ → ((tearAll (tear1 cs x.1 x.2) r).getD j zCell).kept = _) ∧ ∀ w, _ → Torn _ w ((tearAll (tear1 cs x.1 x.2) r).getD j zCell).kept
    rw [i1, i2, hg]
    refine ⟨by split; rename_i e; subst e; rfl; rfl, by split; rename_i e; subst e; rfl; rfl, fun hj => ?_, fun w hw => ?_⟩
    · have hj : j ∉ x.1.1 :: keys (r.map (·.1)) := hj
      rw [List.mem_cons, not_or] at hj
      rw [i3 hj.2, hg, if_neg (Ne.symm hj.1)]
    · have hw : (j, w) ∈ x.1 :: r.map (·.1) := hw
      rcases List.mem_cons.1 hw with hw | hw
      · have e1 : x.1.1 = j := by rw [← hw]
        have e2 : x.1.2 = w := by rw [← hw]
        subst e1; subst e2
        rw [i3 hn.1, hg, if_pos rfl]
        exact ⟨min x.2.toNat 64, by omega, rfl⟩
      · have hne : x.1.1 ≠ j := fun e => hn.1 (by rw [e]; exact keys_mem hw)
        have := i4 w hw
        rw [hg, if_neg hne] at this
        exact this
theorem seeAll_get : ∀ (l : List (Nat × List Int)) (cs : List Cell), (∀ x ∈ l, x.1 < cs.length) → ∀ j, ((seeAll cs l).getD j zCell).kept = (cs.getD j zCell).kept ∧ ((seeAll cs l).getD j zCell).wear = (cs.getD j zCell).wear ∧ (j ∉ keys l → ((seeAll cs l).getD j zCell).seen = (cs.getD j zCell).seen) ∧ (j ∈ keys l → ((seeAll cs l).getD j zCell).seen = (cs.getD j zCell).kept)
  | [], cs, _, j => ⟨rfl, rfl, fun _ => rfl, fun h => by cases h⟩
  | x :: r, cs, hl, j => by
    have hx := hl x List.mem_cons_self
    have hg : ∀ j, (see1 cs x).getD j zCell = if x.1 = j then { cs.getD x.1 zCell with seen := (cs.getD x.1 zCell).kept } else cs.getD j zCell := fun j => getD_set hx
    obtain ⟨i1, i2, i3, i4⟩ := seeAll_get r (see1 cs x) (fun y hy => by rw [see1_len]; exact hl y (List.mem_cons_of_mem _ hy)) j
    have hk : ((see1 cs x).getD j zCell).kept = (cs.getD j zCell).kept := by rw [hg]; split; rename_i e; subst e; rfl; rfl
    have hw : ((see1 cs x).getD j zCell).wear = (cs.getD j zCell).wear := by rw [hg]; split; rename_i e; subst e; rfl; rfl
    show ((seeAll (see1 cs x) r).getD j zCell).kept = _ ∧ ((seeAll (see1 cs x) r).getD j zCell).wear = _ ∧ (_ → ((seeAll (see1 cs x) r).getD j zCell).seen = _) ∧ (_ → ((seeAll (see1 cs x) r).getD j zCell).seen = _)
    rw [i1, i2, hk, hw]
    refine ⟨rfl, rfl, fun hj => ?_, fun hj => ?_⟩
    · have hj : j ∉ x.1 :: keys r := hj
      rw [List.mem_cons, not_or] at hj
      rw [i3 hj.2, hg, if_neg (Ne.symm hj.1)]
    · by_cases hr : j ∈ keys r
      · rw [i4 hr, hk]
      · have hj : j ∈ x.1 :: keys r := hj
        rcases List.mem_cons.1 hj with hj | hj
        · rw [i3 hr, hg, if_pos hj.symm]
          subst hj; rfl
        · exact absurd hj hr
/-- begun anew: some of what waited is there, in part -/
structure Anew (d d' : Dv) : Prop where
  len : d'.cells.length = d.cells.length
  m : d'.most = d.most
  w : d'.done = []
  s : ∀ j, sn d' j = kp d' j
  n : ∀ j, j ∉ keys d.done → kp d' j = kp d j
  t : ∀ j w, (j, w) ∈ d.done → Torn (kp d j) w (kp d' j)
  wr : ∀ j, wr d' j = wr d j
  up : d'.down = false
  bud : d'.budget = -1
theorem Anew.wt (h : Anew d d') : Wt d' := ⟨by rw [h.w]; simp [keys], (by rw [h.w]; intro x hx; cases hx), (by rw [h.w]; intro i w hi; cases hi), fun i _ => h.s i⟩
theorem zip_nodup {l : List (Nat × List Int)} : ∀ (ks : List Int), (keys l).Nodup → (keys ((l.zip ks).map (·.1))).Nodup := by
  induction l with
  | nil => intro ks _; simp [keys]
  | cons x r ih =>
    intro ks h
    match ks with
    | [] => simp [keys]
    | k :: ks =>
      have h : x.1 ∉ keys r ∧ (keys r).Nodup := List.nodup_cons.1 h
      refine List.nodup_cons.2 ⟨fun hx => h.1 ?_, ih ks h.2⟩
      obtain ⟨y, hy, e⟩ := List.mem_map.1 hx
      obtain ⟨z, hz, rfl⟩ := List.mem_map.1 hy
      have e : z.1.1 = x.1 := e
      show x.1 ∈ keys r
      rw [← e]
      exact keys_mem (List.of_mem_zip hz).1
theorem zip_mem {l : List (Nat × List Int)} {x : Nat × List Int} : ∀ (ks : List Int), x ∈ l → x ∈ (l.zip ks).map (·.1) ∨ x ∉ (l.zip ks).map (·.1) := fun ks _ => Classical.em _
theorem restart_anew (hw : Wt d) (hk : ∀ j, (kp d j).length = 64) (ks : List Int) : Anew d (d.restart ks) := by
  have hz : ∀ x ∈ d.done.zip ks, x.1.1 < d.cells.length := fun x hx => hw.lt x.1 (List.of_mem_zip hx).1
  have hn := zip_nodup ks hw.nd
  have g1 := tearAll_get (d.done.zip ks) d.cells hn hz
  have g2 := seeAll_get d.done (tearAll d.cells (d.done.zip ks)) (fun x hx => by rw [tearAll_len]; exact hw.lt x hx)
  have hkp : ∀ j, kp (d.restart ks) j = ((tearAll d.cells (d.done.zip ks)).getD j zCell).kept := fun j => (g2 j).1
  have hsub : ∀ y, y ∈ (d.done.zip ks).map (·.1) → y ∈ d.done := fun y hy => by
    obtain ⟨z, hz, rfl⟩ := List.mem_map.1 hy
    exact (List.of_mem_zip hz).1
  refine ⟨?_, rfl, rfl, fun j => ?_, fun j hj => ?_, fun j w hj => ?_, fun j => ?_, rfl, rfl⟩
  · show (seeAll _ _).length = _; rw [seeAll_len, tearAll_len]
  · rw [hkp]
    show ((seeAll _ _).getD j zCell).seen = _
    by_cases hj : j ∈ keys d.done
    · rw [(g2 j).2.2.2 hj]
    · rw [(g2 j).2.2.1 hj, (g1 j).1, (g1 j).2.2.1 (fun h => hj (by
        obtain ⟨y, hy, e⟩ := List.mem_map.1 h
        rw [← e]; exact keys_mem (hsub y hy)))]
      exact hw.n j hj
  · rw [hkp, (g1 j).2.2.1 (fun h => hj (by
      obtain ⟨y, hy, e⟩ := List.mem_map.1 h
      rw [← e]; exact keys_mem (hsub y hy)))]; rfl
  · rw [hkp]
    by_cases hj2 : j ∈ keys ((d.done.zip ks).map (·.1))
    · obtain ⟨y, hy, e⟩ := List.mem_map.1 hj2
      have e2 : y.2 = w := keys_uniq hw.nd (i := j) (by rw [← e]; exact hsub y hy) hj
      exact (g1 j).2.2.2 w (by rw [← e, ← e2]; exact hy)
    · rw [(g1 j).2.2.1 hj2]
      exact ⟨0, by omega, by simp; rfl⟩
  · show ((seeAll _ _).getD j zCell).wear = _
    rw [(g2 j).2.1, (g1 j).2.1]; rfl
end J
set_option linter.unusedVariables false
set_option linter.unusedSimpArgs false
set_option maxRecDepth 100000
namespace J
open Go Go.Ab
variable {d d' d0 : Dv} {m m' : Mp} {s : List Int} {l : List (List Int)} {i j : Nat} {A B : Nat} {b : Int} {N : Nat}
/-! two banks, plainly -/
def off (A : Nat) (b : Int) : Nat := if b = 0 then 0 else A
def siz (A B : Nat) (b : Int) : Nat := if b = 0 then A else B
/-- a map of which the first two parts are the banks -/
structure Two (m : Mp) (A B : Nat) : Prop where
  sp : ∃ r, m.spans = (0, A) :: (A, B) :: r
  fit : A + B ≤ m.d.cells.length
abbrev Bit (b : Int) : Prop := b = 0 ∨ b = 1
theorem two_has (h : Two m A B) (hb : Bit b) : m.has b ∧ m.span b = (off A b, siz A B b) := by
  obtain ⟨r, e⟩ := h.sp
  unfold Mp.has Mp.span
  rw [e]
  rcases hb with rfl | rfl
  · exact ⟨⟨by omega, by simp; omega⟩, rfl⟩
  · exact ⟨⟨by omega, by simp; omega⟩, rfl⟩
theorem two_size (h : Two m A B) (hb : Bit b) : m.size b = siz A B b := by
  unfold Mp.size
  rw [if_pos (two_has h hb).1, (two_has h hb).2]
theorem two_fit (h : Two m A B) (hb : Bit b) {y : Nat} (hy : y < siz A B b) : off A b + y < m.d.cells.length := by
  have := h.fit
  rcases hb with rfl | rfl
  · have : siz A B 0 = A := rfl
    have : off A 0 = 0 := rfl
    omega
  · have : siz A B 1 = B := rfl
    have : off A 1 = A := rfl
    omega
theorem two_place (h : Two m A B) (hb : Bit b) {y : Nat} (hy : y < siz A B b) : m.place b y = (((off A b + y : Nat) : Int), 0) := by
  unfold Mp.place
  rw [if_neg (fun h2 => h2 (two_has h hb).1), (two_has h hb).2, if_neg (by show ¬ ((y : Int) < 0 ∨ (siz A B b : Int) ≤ y); omega)]
  show ((((off A b : Nat) : Int) + (y : Int)), (0 : Int)) = _
  rw [show ((off A b : Nat) : Int) + (y : Int) = ((off A b + y : Nat) : Int) by omega]
theorem read_sn (hj : j < d.cells.length) : (d.read (j : Int)).1 = sn d j := by
  unfold Dv.read
  rw [if_pos (has_nat hj)]
  show (d.cell (j : Int)).seen = _
  unfold Dv.cell sn
  rw [Int.toNat_natCast]
theorem two_read (h : Two m A B) (hb : Bit b) {y : Nat} (hy : y < siz A B b) : (m.read b y).1 = sn m.d (off A b + y) := by
  unfold Mp.read
  rw [two_place h hb hy, if_neg (by simp)]
  exact read_sn (two_fit h hb hy)
/-- a bank, as it is kept -/
def bk (d : Dv) (A B : Nat) (b : Int) : List (List Int) := (List.range (siz A B b)).map fun y => kp d (off A b + y)
theorem bk_len : (bk d A B b).length = siz A B b := by simp [bk]
theorem bk_get {y : Nat} (h : y < (bk d A B b).length) : (bk d A B b)[y] = kp d (off A b + y) := by simp [bk]
theorem two_secs (h : Two m A B) (hb : Bit b) (hs : ∀ j, sn m.d j = kp m.d j) : m.secs b = bk m.d A B b := by
  unfold Mp.secs bk
  rw [two_size h hb]
  apply List.map_congr_left
  intro y hy
  have hy := List.mem_range.1 hy
  rw [two_read h hb hy, hs]
theorem two_of (h : Two m A B) (h1 : m'.spans = m.spans) (h2 : m'.d.cells.length = m.d.cells.length) : Two m' A B := ⟨by rw [h1]; exact h.sp, by rw [h2]; exact h.fit⟩
/-- all that was done was done to one part -/
def OpsB (b : Int) (l : List Op) : Prop := ∀ o ∈ l, o.part = b
theorem note_opsB {o : Op} {e : Int} (ho : o.part = b) (h : OpsB b m.ops) : OpsB b (m.note o e).ops := by
  unfold Mp.note
  split
  · intro x hx
    rcases List.mem_append.1 hx with hx | hx
    · exact h x hx
    · have : x = { o with who := m.who } := by simpa using hx
      subst this; exact ho
  · exact h
theorem two_erase (h : Two m A B) (hb : Bit b) {y : Nat} (hy : y < siz A B b) : (m.erase b y).1.d = (m.d.erase ((off A b + y : Nat) : Int)).1 ∧ (m.erase b y).2 = (m.d.erase ((off A b + y : Nat) : Int)).2 ∧ (m.erase b y).1.spans = m.spans ∧ (OpsB b m.ops → OpsB b (m.erase b y).1.ops) := by
  unfold Mp.erase
  rw [two_place h hb hy, if_neg (by simp)]
  exact ⟨Mp.note_d, rfl, Mp.note_s, fun h => note_opsB rfl h⟩
theorem two_program (h : Two m A B) (hb : Bit b) {y : Nat} (hy : y < siz A B b) : (m.program b y s).1.d = (m.d.program ((off A b + y : Nat) : Int) s).1 ∧ (m.program b y s).2 = (m.d.program ((off A b + y : Nat) : Int) s).2 ∧ (m.program b y s).1.spans = m.spans ∧ (OpsB b m.ops → OpsB b (m.program b y s).1.ops) := by
  unfold Mp.program
  rw [two_place h hb hy, if_neg (by simp)]
  exact ⟨Mp.note_d, rfl, Mp.note_s, fun h => note_opsB rfl h⟩
/-! a bank wiped -/
/-- a device under way: some sectors between two places wait to be blank -/
structure Wip (d0 d : Dv) (lo hi : Nat) : Prop where
  len : d.cells.length = d0.cells.length
  m : d.most = d0.most
  wt : Wt d
  k : ∀ j, kp d j = kp d0 j
  ks : ∀ x ∈ d.done, lo ≤ x.1 ∧ x.1 < hi ∧ x.2 = blank
  w1 : ∀ j, wr d j ≤ wr d0 j + 1
  w2 : ∀ j, j ∉ keys d.done → wr d j ≤ wr d0 j
  bud : d0.budget < 0 → d.budget = d0.budget
theorem Wip.wide {lo hi hi' : Nat} (h : Wip d0 d lo hi) (hh : hi ≤ hi') : Wip d0 d lo hi' := ⟨h.len, h.m, h.wt, h.k, fun x hx => ⟨(h.ks x hx).1, Nat.lt_of_lt_of_le (h.ks x hx).2.1 hh, (h.ks x hx).2.2⟩, h.w1, h.w2, h.bud⟩
theorem Wip.out {lo hi : Nat} (h : Wip d0 d lo hi) (ho : Out d d') : Wip d0 d' lo hi := by
  refine ⟨by rw [ho.s.c, h.len], by rw [ho.s.m, h.m], ho.s.wt h.wt, fun j => by rw [ho.s.kp, h.k], by rw [ho.s.w]; exact h.ks, fun j => by rw [ho.s.wr]; exact h.w1 j, fun j hj => by rw [ho.s.wr]; exact h.w2 j (by rw [← ho.s.w]; exact hj), fun hb => ?_⟩
  have := ho.b
  have := h.bud hb
  omega
/-- what a wipe comes to -/
def WipeR (m : Mp) (A B : Nat) (b : Int) (d0 : Dv) (R : Mp × Int) : Prop :=
  R.1.spans = m.spans ∧ (OpsB b m.ops → OpsB b R.1.ops) ∧ Wip d0 R.1.d (off A b) (off A b + siz A B b) ∧ ((R.2 = 0 ∧ R.1.d.down = false ∧ ∀ y, y < siz A B b → sn R.1.d (off A b + y) = blank) ∨ (R.2 = 62 ∧ R.1.d.down = true ∧ 0 ≤ d0.budget))
theorem wipeN_run (hb : Bit b) (hw0 : ∀ j, wr d0 j < d0.most) : ∀ (n y : Nat) (m : Mp), y + n = siz A B b → Two m A B → m.d.down = false → Wip d0 m.d (off A b) (off A b + y) → (∀ z, z < y → sn m.d (off A b + z) = blank) → WipeR m A B b d0 (Mp.wipeN b n y m)
  | 0, y, m, hn, h2, hu, hw, hs => by
    have e : siz A B b = y := by omega
    refine ⟨rfl, fun h => h, by rw [e]; exact hw, .inl ⟨rfl, hu, fun z hz => hs z (by omega)⟩⟩
  | n + 1, y, m, hn, h2, hu, hw, hs => by
    have hy : y < siz A B b := by omega
    rw [Mp.wipeN_succ]
    by_cases hbl : (m.read b y).1 = blank
    · rw [if_pos hbl]
      rw [two_read h2 hb hy] at hbl
      exact wipeN_run hb hw0 n (y + 1) m (by omega) h2 hu (hw.wide (by omega)) fun z hz => by
        by_cases e : z = y
        · subst e; exact hbl
        · exact hs z (by omega)
    rw [if_neg hbl]
    have hnk : off A b + y ∉ keys m.d.done := fun h => by
      obtain ⟨x, hx, e⟩ := List.mem_map.1 h
      have := (hw.ks x hx).2.1
      omega
    obtain ⟨e1, e2, e3, e4⟩ := two_erase h2 hb hy
    have hwy : wr m.d (off A b + y) < m.d.most := by rw [hw.m]; have := hw.w2 _ hnk; have := hw0 (off A b + y); omega
    rcases erase_cases (two_fit h2 hb hy) hu hwy with ⟨c1, c2⟩ | ⟨c1, c2, c3⟩
    · rw [if_pos (by rw [e2, c1]; decide)]
      refine ⟨e3, e4, ?_, .inr ⟨by rw [e2, c1], by rw [e1]; exact c2.dn, ?_⟩⟩
      · rw [e1]; exact (hw.out c2).wide (by omega)
      · have := c2.b
        by_cases hlt : d0.budget < 0
        · have := hw.bud hlt; omega
        · omega
    · rw [if_neg (by rw [e2, c1]; simp)]
      have hwt := c2.wt hw.wt (two_fit h2 hb hy) hnk
      have hW : Wip d0 (m.erase b y).1.d (off A b) (off A b + (y + 1)) := by
        rw [e1]
        refine ⟨by rw [c2.len, hw.len], by rw [c2.m, hw.m], hwt, fun j => by rw [c2.k, hw.k], ?_, fun j => ?_, fun j hj => ?_, fun hb => ?_⟩
        · rw [c2.w]
          intro x hx
          rcases List.mem_append.1 hx with hx | hx
          · have := hw.ks x hx; exact ⟨this.1, by omega, this.2.2⟩
          · have : x = (off A b + y, blank) := by simpa using hx
            subst this
            exact ⟨by show off A b ≤ off A b + y; omega, by show off A b + y < _; omega, rfl⟩
        · rw [c3]
          split
          · rename_i e; subst e; have := hw.w2 _ hnk; omega
          · exact hw.w1 j
        · rw [c2.w, keys_app, List.mem_append, not_or] at hj
          rw [c3, if_neg (fun e => hj.2 (by subst e; simp [keys]))]
          exact hw.w2 j hj.1
        · have h1 := hw.bud hb
          rw [c2.bud (by omega), h1]
      have hr := wipeN_run hb hw0 n (y + 1) (m.erase b y).1 (by omega) (two_of h2 e3 (by rw [e1, c2.len])) (by rw [e1]; exact c2.up) hW fun z hz => by
        rw [e1, c2.s]
        by_cases e : z = y
        · subst e; rw [if_pos rfl]
        · rw [if_neg (by omega)]; exact hs z (by omega)
      exact ⟨by rw [hr.1, e3], fun h => hr.2.1 (e4 h), hr.2.2⟩
theorem wipe_run (h2 : Two m A B) (hb : Bit b) (hu : m.d.down = false) (hd : m.d.done = []) (hwt : Wt m.d) (hw : ∀ j, wr m.d j < m.d.most) : WipeR m A B b m.d (m.wipe b) := by
  unfold Mp.wipe
  rw [if_neg (fun h => h (two_has h2 hb).1), two_size h2 hb]
  refine wipeN_run hb hw _ 0 m (by omega) h2 hu ⟨rfl, rfl, hwt, fun j => rfl, (by rw [hd]; intro x hx; cases hx), fun j => by omega, fun j _ => by omega, fun _ => rfl⟩ fun z hz => by omega
/-! sectors written -/
def pl : Nat → List (List Int) → List (Nat × List Int)
  | _, [] => []
  | n, s :: r => (n, s) :: pl (n + 1) r
theorem pl_mem : ∀ {l : List (List Int)} {n : Nat} {x : Nat × List Int}, x ∈ pl n l → ∃ i, ∃ h : i < l.length, x = (n + i, l[i])
  | [], n, x, h => by cases h
  | s :: r, n, x, h => by
    rcases List.mem_cons.1 h with rfl | h
    · exact ⟨0, by simp, rfl⟩
    · obtain ⟨i, hi, e⟩ := pl_mem h
      exact ⟨i + 1, by simp; omega, by rw [e]; simp; omega⟩
theorem mem_pl : ∀ {l : List (List Int)} {n i : Nat} (h : i < l.length), (n + i, l[i]) ∈ pl n l
  | [], n, i, h => by simp at h
  | s :: r, n, 0, h => List.mem_cons_self
  | s :: r, n, i + 1, h => by
    have := mem_pl (l := r) (n := n + 1) (i := i) (by simpa using h)
    have e : n + 1 + i = n + (i + 1) := by omega
    rw [e] at this
    exact List.mem_cons_of_mem _ this
theorem keys_pl {n j : Nat} (h : j ∈ keys (pl n l)) : n ≤ j ∧ j < n + l.length := by
  obtain ⟨x, hx, rfl⟩ := List.mem_map.1 h
  obtain ⟨i, hi, rfl⟩ := pl_mem hx
  exact ⟨by show n ≤ n + i; omega, by show n + i < _; omega⟩
/-- what writing comes to -/
def WriteR (m : Mp) (A B : Nat) (b : Int) (a : Nat) (l : List (List Int)) (R : Mp × Int) : Prop :=
  R.1.spans = m.spans ∧ (OpsB b m.ops → OpsB b R.1.ops) ∧ R.1.d.cells.length = m.d.cells.length ∧ R.1.d.most = m.d.most ∧ (∀ j, wr R.1.d j = wr m.d j) ∧ (m.d.budget < 0 → R.1.d.budget = m.d.budget) ∧
  ((R.2 = 0 ∧ R.1.d.down = false ∧ R.1.d.done = [] ∧ (∀ j, sn R.1.d j = kp R.1.d j) ∧ (∀ i (h : i < l.length), kp R.1.d (off A b + a + i) = l[i]) ∧ ∀ j, (j < off A b + a ∨ off A b + a + l.length ≤ j) → kp R.1.d j = sn m.d j) ∨
   (R.2 = 62 ∧ R.1.d.down = true ∧ 0 ≤ m.d.budget ∧ Wt R.1.d ∧ (∀ j, kp R.1.d j = kp m.d j) ∧ ∃ i, i ≤ l.length ∧ R.1.d.done = m.d.done ++ (pl (off A b + a) l).take i))
theorem write_run (hb : Bit b) : ∀ (l : List (List Int)) (a : Nat) (m : Mp), a + l.length ≤ siz A B b → Two m A B → m.d.down = false → Wt m.d → (∀ y, a ≤ y → y < a + l.length → sn m.d (off A b + y) = blank ∧ off A b + y ∉ keys m.d.done) → WriteR m A B b a l (mWrite b (a : Int) l m)
  | [], a, m, hl, h2, hu, hw, ht => by
    rw [mWrite_nil]
    show WriteR m A B b a [] ({ m with d := m.d.sync.1 }, m.d.sync.2)
    rcases sync_cases hu hw with ⟨c1, c2⟩ | ⟨c1, c2⟩
    · refine ⟨rfl, fun h => h, by show m.d.sync.1.cells.length = _; rw [c2.s.c], c2.s.m, fun j => c2.s.wr, fun hb => by have := c2.b; omega, .inr ⟨c1, c2.dn, c2.b, c2.s.wt hw, fun j => c2.s.kp, 0, by simp, by show m.d.sync.1.done = _; rw [c2.s.w]; simp⟩⟩
    · refine ⟨rfl, fun h => h, c2.len, c2.m, c2.wr, c2.bud, .inl ⟨c1, c2.up, c2.w, fun j => by show sn m.d.sync.1 j = kp m.d.sync.1 j; rw [c2.s, c2.k], fun i h => by simp at h, fun j _ => c2.k j⟩⟩
  | s :: r, a, m, hl, h2, hu, hw, ht => by
    have hl' : a + (r.length + 1) ≤ siz A B b := hl
    have hy : a < siz A B b := by omega
    obtain ⟨t1, t2⟩ := ht a (Nat.le_refl _) (by simp)
    rw [mWrite_cons]
    obtain ⟨e1, e2, e3, e4⟩ := two_program (s := s) h2 hb hy
    rcases program_cases (s := s) (two_fit h2 hb hy) hu t1 with ⟨c1, c2⟩ | ⟨c1, c2, c3⟩
    · rw [if_pos (by rw [e2, c1]; decide)]
      refine ⟨e3, e4, by rw [e1, c2.s.c], by rw [e1, c2.s.m], fun j => by rw [e1, c2.s.wr], fun hb => by have := c2.b; omega, .inr ⟨by rw [e2, c1], by rw [e1]; exact c2.dn, c2.b, by rw [e1]; exact c2.s.wt hw, fun j => by rw [e1, c2.s.kp], 0, by simp, by rw [e1, c2.s.w]; simp⟩⟩
    · rw [if_neg (by rw [e2, c1]; simp)]
      have hwt := c2.wt hw (two_fit h2 hb hy) t2
      have hr := write_run hb r (a + 1) (m.program b a s).1 (by omega) (two_of h2 e3 (by rw [e1, c2.len])) (by rw [e1]; exact c2.up) (by rw [e1]; exact hwt) fun y hy1 hy2 => by
        obtain ⟨u1, u2⟩ := ht y (by omega) (by simp; omega)
        rw [e1, c2.s, c2.w, if_neg (by omega), keys_app, List.mem_append, not_or]
        exact ⟨u1, u2, by simp [keys]; omega⟩
      have ea : ((a + 1 : Nat) : Int) = (a : Int) + 1 := by omega
      rw [ea] at hr
      obtain ⟨r1, r2, r3, r4, r5, r6, r7⟩ := hr
      have r5' := r5
      rw [e1] at r3 r4 r6
      refine ⟨by rw [r1, e3], fun h => r2 (e4 h), by rw [r3, c2.len], by rw [r4, c2.m], fun j => by rw [r5, e1, c3], fun hb => by rw [r6 (by rw [c2.bud hb]; exact hb), c2.bud hb], ?_⟩
      rcases r7 with ⟨q1, q2, q3, q4, q5, q6⟩ | ⟨q1, q2, q3, q4, q5, i, q6, q7⟩
      · refine .inl ⟨q1, q2, q3, q4, fun i hi => ?_, fun j hj => ?_⟩
        · match i, hi with
          | 0, hi =>
            rw [q6 _ (.inl (by omega)), e1, c2.s, if_pos (by omega)]; rfl
          | i + 1, hi =>
            have := q5 i (by simpa using hi)
            rw [show off A b + (a + 1) + i = off A b + a + (i + 1) by omega] at this
            exact this
        · rw [List.length_cons] at hj
          rw [q6 j (by omega), e1, c2.s, if_neg (by omega)]
      · refine .inr ⟨q1, q2, ?_, q4, fun j => by rw [q5, e1, c2.k], i + 1, by simp; omega, ?_⟩
        · by_cases hlt : m.d.budget < 0
          · rw [e1, c2.bud hlt] at q3; omega
          · omega
        · rw [q7, e1, c2.w, List.append_assoc]
          show m.d.done ++ ([(off A b + a, s)] ++ List.take i (pl (off A b + (a + 1)) r)) = m.d.done ++ List.take (i + 1) ((off A b + a, s) :: pl (off A b + a + 1) r)
          rw [show off A b + (a + 1) = off A b + a + 1 by omega]; rfl
end J
set_option linter.unusedVariables false
set_option linter.unusedSimpArgs false
set_option maxRecDepth 100000
namespace J
open Go Go.Ab
variable {d d' d0 d1 : Dv} {m m' : Mp} {s x : List Int} {l ss tt pre rest : List (List Int)} {A B : Nat} {b : Int} {F last : Nat} {body : List Int} {now : List (List Int)}
/-! torn sectors -/
/-- sectors of which some are erased, each in part -/
def Ers (ss tt : List (List Int)) : Prop := tt.length = ss.length ∧ ∀ i (h : i < ss.length) (h' : i < tt.length), Torn ss[i] blank tt[i]
theorem torn_self : Torn s x s := ⟨0, by omega, by simp⟩
theorem ers_self : Ers ss ss := ⟨rfl, fun _ _ _ => torn_self⟩
theorem torn_trans {a b c : List Int} (h : Torn a blank b) (h2 : Torn b blank c) : Torn a blank c := by
  obtain ⟨n, hn, rfl⟩ := h
  obtain ⟨k, hk, rfl⟩ := h2
  have hl : (blank.take n).length = n := by rw [List.length_take, blank_len]; omega
  by_cases h : k ≤ n
  · refine ⟨n, hn, ?_⟩
    rw [List.drop_append_of_le_length (by omega), ← List.append_assoc]
    congr 1
    have : blank.take k = (blank.take n).take k := by rw [List.take_take, Nat.min_eq_left h]
    rw [this, List.take_append_drop]
  · refine ⟨k, hk, ?_⟩
    have e : k = (blank.take n).length + (k - n) := by omega
    conv => lhs; rw [e]
    rw [List.drop_length_add_append, List.drop_drop, hl, show n + (k - n) = k by omega]
theorem ers_trans {ss tt uu : List (List Int)} (h : Ers ss tt) (h2 : Ers tt uu) : Ers ss uu := ⟨by rw [h2.1, h.1], fun i h3 h4 => torn_trans (h.2 i h3 (by rw [h.1]; exact h3)) (h2.2 i (by rw [h.1]; exact h3) h4)⟩
/-- erased at all: no head -/
theorem torn_head (h : Torn s blank x) (hx : x.take 2 = [66, 74]) : x = s := by
  obtain ⟨n, hn, rfl⟩ := h
  match n with
  | 0 => simp
  | n + 1 => exact absurd hx (by
      have : blank.take (n + 1) = 255 :: (List.replicate 63 255).take n := rfl
      rw [this]
      simp)
/-- erased: whole only where it was whole -/
theorem torn_whole (h : Torn s blank x) (hs : s.length = 64) (hx : x.getD 63 1 = 0) : s.getD 63 1 = 0 := by
  obtain ⟨n, hn, rfl⟩ := h
  rw [List.getD_eq_getElem?_getD] at hx ⊢
  have hl : (blank.take n).length = n := by rw [List.length_take, blank_len]; omega
  by_cases h : 63 < n
  · have e : n = 64 := by omega
    subst e
    rw [List.drop_of_length_le (by omega), List.append_nil] at hx
    exact absurd hx (by decide)
  · rw [List.getElem?_append_right (by omega), List.getElem?_drop, hl, show n + (63 - n) = 63 by omega] at hx
    exact hx
/-- a part came onto a blank: whole only where all came -/
theorem torn_new (h : Torn blank s x) (hs : s.length = 64) (hx : x.getD 63 1 = 0) : x = s := by
  obtain ⟨n, hn, rfl⟩ := h
  have hl : (s.take n).length = n := by rw [List.length_take]; omega
  by_cases h : 63 < n
  · rw [List.take_of_length_le (by omega), List.drop_of_length_le (by rw [blank_len]; omega), List.append_nil]
  · rw [List.getD_eq_getElem?_getD, List.getElem?_append_right (by omega), List.getElem?_drop, hl, show n + (63 - n) = 63 by omega] at hx
    exact absurd hx (by decide)
/-! a bank that doesn't count -/
/-- whatever of it is erased: nothing stands there, or something older -/
def Oth (ss : List (List Int)) (F : Nat) : Prop := ∀ tt, Ers ss tt → (fStands tt).bodies = [] ∨ (fStands tt).first < F
theorem Oth.ers (h : Oth ss F) (he : Ers ss tt) : Oth tt F := fun uu hu => h uu (ers_trans he hu)
/-- its head's number is less -/
def HeadLt (ss : List (List Int)) (F : Nat) : Prop := ∀ s r, ss = s :: r → s.take 2 = [66, 74] → hSeq s < F
theorem HeadLt.oth (h : HeadLt ss F) : Oth ss F := by
  intro tt ht
  rcases stands_cases (ss := tt) with h1 | ⟨h1, h2⟩
  · exact .inl h1
  · obtain ⟨s, r, e, g1, g2, _⟩ := fGet_inv h1
    right
    rw [h2, g2]
    have hl : 0 < tt.length := by rw [e]; simp
    have hl' : 0 < ss.length := by have := ht.1; omega
    have ht0 := ht.2 0 hl' hl
    have es : tt[0] = s := by simp [e]
    rw [es] at ht0
    have := torn_head ht0 g1
    match ss, hl', this with
    | x :: r', _, this =>
      have this : s = x := this
      rw [this]
      exact h x r' rfl (by rw [← this]; exact g1)
theorem HeadLt.mono {F' : Nat} (h : HeadLt ss F) (hf : F ≤ F') : HeadLt ss F' := fun s r e g => Nat.lt_of_lt_of_le (h s r e g) hf
theorem headLt_put {kind seq : Nat} (hl : body.length ≤ 4000) (hk : kind < 256) (hq : seq < 2 ^ 64) (hs : seq < F) : HeadLt (fPut kind seq body ++ rest) F := by
  intro s r e _
  obtain ⟨s', r', e', hh⟩ := fPut_head (kind := kind) (seq := seq) hl
  rw [e'] at e
  have : s' = s := by injection e
  subst this
  rw [(head_get hh hk hq (by omega)).2.2.1]; exact hs
theorem headLt_pre (h : HeadLt (pre ++ rest) F) (hp : pre ≠ []) : HeadLt (pre ++ tt) F := by
  intro s r e g
  match pre, hp with
  | x :: p, _ =>
    have e : x = s := by injection e
    exact h s (p ++ rest) (by rw [← e]; rfl) g
theorem oth_none (h : ∀ tt, Ers ss tt → (fGet tt).many = 0) : Oth ss F := fun tt ht => .inl (by rw [stands_none (h tt ht)]; rfl)
/-- a frame written, in part or whole, onto a blank bank -/
theorem torn_frame {kind seq n : Nat} (hl : body.length ≤ 4000) (hk : kind < 256) (hq : seq < 2 ^ 64) (hlen : tt.length = (fPut kind seq body).length + n) (h1 : ∀ i (h : i < (fPut kind seq body).length) (h' : i < tt.length), Torn blank (fPut kind seq body)[i] tt[i]) (h2 : ∀ i (h' : i < tt.length), (fPut kind seq body).length ≤ i → tt[i] = blank) :
    tt = fPut kind seq body ++ List.replicate n blank ∨ ∀ uu, Ers tt uu → (fGet uu).many = 0 := by
  have ht64 : ∀ i (h' : i < tt.length), tt[i].length = 64 := fun i h' => by
    by_cases h : i < (fPut kind seq body).length
    · obtain ⟨k, hk, e⟩ := h1 i h h'
      have := fPut_ok _ (List.getElem_mem h)
      rw [e, List.length_append, List.length_take, List.length_drop, this, blank_len]; omega
    · rw [h2 i h' (by omega)]; rfl
  by_cases hall : ∀ i (h : i < (fPut kind seq body).length) (h' : i < tt.length), tt[i] = (fPut kind seq body)[i]
  · left
    apply List.ext_getElem
    · simp [hlen]
    · intro i g1 g2
      by_cases h : i < (fPut kind seq body).length
      · rw [List.getElem_append_left h]; exact hall i h g1
      · rw [List.getElem_append_right (by omega), List.getElem_replicate]; exact h2 i g1 (by omega)
  · right
    intro uu hu
    by_cases h0 : (fGet uu).many = 0
    · exact h0
    exfalso
    apply hall
    obtain ⟨s, r, e, g1, g2, g3, g4⟩ := fGet_inv h0
    have hmle := fGet_many h0
    have hulen := hu.1
    have hlast : ∀ i (h : i < uu.length), i < (fGet uu).many → uu[i].getD 63 1 = 0 := fun i h hi => g4 _ (by
      rw [List.mem_take_iff_getElem]
      exact ⟨i, by omega, rfl⟩)
    have hu0 : 0 < uu.length := by rw [e]; simp
    have es : uu[0] = s := by simp [e]
    have ht0 : 0 < tt.length := by omega
    have e0 : uu[0] = tt[0] := torn_head (hu.2 0 ht0 hu0) (by rw [es]; exact g1)
    have hw0 : tt[0].getD 63 1 = 0 := by rw [← e0]; exact hlast 0 hu0 (by omega)
    obtain ⟨s', r', e', hh⟩ := fPut_head (kind := kind) (seq := seq) hl
    have hf0 : 0 < (fPut kind seq body).length := by rw [e']; simp
    have e1 : tt[0] = (fPut kind seq body)[0] := torn_new (h1 0 hf0 ht0) (fPut_ok _ (List.getElem_mem hf0)) hw0
    have e2 : (fPut kind seq body)[0] = s' := by simp [e']
    have e3 : s = s' := by rw [← es, e0, e1, e2]
    have hsz := fSize_eq hl
    have hmany : (fGet uu).many = (fPut kind seq body).length := by
      rw [g3, e3, (head_get hh hk hq (by omega)).2.2.2, fPut_size]
    intro i h h'
    have hi : i < uu.length := by omega
    have hw := torn_whole (hu.2 i h' hi) (ht64 i h') (hlast i hi (by omega))
    exact torn_new (h1 i h h') (fPut_ok _ (List.getElem_mem h)) hw
/-! what stands in two banks -/
/-- the bank that counts, and the other one; F: the number with which it begins -/
structure Jst (d : Dv) (A B : Nat) (i : Int) (F last : Nat) (now : List (List Int)) : Prop where
  i01 : Bit i
  bod : (fStands (bk d A B i)).bodies = now
  lst : (fStands (bk d A B i)).last = last
  fst : now ≠ [] → (fStands (bk d A B i)).first = F
  nil : now = [] → i = 1 ∧ F = 0
  le : F ≤ last
  oth : Oth (bk d A B (1 - i)) F
  own : HeadLt (bk d A B i) (last + 1)
theorem bit_other {i : Int} (h : Bit i) : Bit (1 - i) := by rcases h with rfl | rfl <;> simp [Bit]
/-- opened, it is that -/
theorem jst_open {i : Int} (h2 : Two m A B) (hs : ∀ j, sn m.d j = kp m.d j) (h : Jst m.d A B i F last now) : (jStand m 0 1).bodies = now ∧ jOpen m 0 1 = ⟨0, 1, i, last, 0, false⟩ := by
  have e0 := two_secs h2 (.inl rfl) hs
  have e1 := two_secs h2 (.inr rfl) hs
  have key : (jPick (fStands (m.secs 0)) (fStands (m.secs 1)) ↔ i = 0) := by
    rw [e0, e1]
    unfold jPick
    have ho := h.oth _ ers_self
    rcases h.i01 with rfl | rfl
    · refine ⟨fun _ => rfl, fun _ => ?_⟩
      have hn : now ≠ [] := fun hn => by have := (h.nil hn).1; omega
      have hb := h.bod
      have hf := h.fst hn
      refine ⟨?_, ?_⟩
      · rw [hb]; exact List.length_pos_iff.2 hn
      · rcases ho with ho | ho
        · exact .inl (by rw [show (1 : Int) = 1 - 0 by omega, ho]; rfl)
        · exact .inr (by rw [hf]; exact ho)
    · refine ⟨fun hp => ?_, fun hp => by omega⟩
      exfalso
      rcases ho with ho | ho
      · have := hp.1; rw [show (0 : Int) = 1 - 1 by omega, ho] at this; simp at this
      · by_cases hn : now = []
        · have := (h.nil hn).2; omega
        · have hf := h.fst hn
          have hb := h.bod
          rcases hp.2 with h3 | h3
          · rw [hb] at h3; exact hn (List.length_eq_zero_iff.1 h3)
          · rw [hf] at h3
            have ho : (fStands (bk m.d A B 0)).first < F := ho
            omega
  unfold jStand jOpen
  unfold jStand
  have hb := h.bod
  have hl := h.lst
  by_cases hi : i = 0
  · rw [if_pos (key.2 hi), if_pos (key.2 hi), e0]
    subst hi
    exact ⟨hb, by rw [hl]⟩
  · rw [if_neg (fun h3 => hi (key.1 h3)), if_neg (fun h3 => hi (key.1 h3)), e1]
    have : i = 1 := by have := h.i01; rcases this with h3 | h3; exact absurd h3 hi; exact h3
    subst this
    exact ⟨hb, by rw [hl]⟩
theorem bk_eq (hk : ∀ y, y < siz A B b → kp d' (off A b + y) = kp d (off A b + y)) : bk d' A B b = bk d A B b := by
  unfold bk
  apply List.map_congr_left
  intro y hy
  exact hk y (List.mem_range.1 hy)
/-- the other bank erased, in part: the same stands there -/
theorem jst_ers {i : Int} (h : Jst d A B i F last now) (h1 : bk d' A B i = bk d A B i) (h2 : Ers (bk d A B (1 - i)) (bk d' A B (1 - i))) : Jst d' A B i F last now :=
  ⟨h.i01, by rw [h1]; exact h.bod, by rw [h1]; exact h.lst, fun hn => by rw [h1]; exact h.fst hn, h.nil, h.le, h.oth.ers h2, by rw [h1]; exact h.own⟩
/-- the two banks lie apart -/
theorem off_apart {i : Int} (hi : Bit i) {j y : Nat} (h1 : off A (1 - i) ≤ j) (h2 : j < off A (1 - i) + siz A B (1 - i)) (hy : y < siz A B i) : off A i + y ≠ j := by
  rcases hi with rfl | rfl
  · have e1 : off A (1 - 0) = A := rfl
    have e2 : siz A B 0 = A := rfl
    have e3 : off A 0 = 0 := rfl
    omega
  · have e1 : off A (1 - 1) = 0 := rfl
    have e2 : siz A B (1 - 1) = A := rfl
    have e3 : off A 1 = A := rfl
    omega
/-- a wipe that ended half-way -/
theorem jst_wip {i : Int} (h : Jst d A B i F last now) (hw : Wip d d1 (off A (1 - i)) (off A (1 - i) + siz A B (1 - i))) (ha : Anew d1 d') : Jst d' A B i F last now := by
  refine jst_ers h (bk_eq fun y hy => ?_) ⟨by rw [bk_len, bk_len], fun y h1 h2 => ?_⟩
  · rw [ha.n, hw.k]
    intro hk
    obtain ⟨x, hx, e⟩ := List.mem_map.1 hk
    obtain ⟨k1, k2, _⟩ := hw.ks x hx
    exact off_apart h.i01 k1 k2 hy e.symm
  · rw [bk_get, bk_get]
    by_cases hk : off A (1 - i) + y ∈ keys d1.done
    · obtain ⟨x, hx, e⟩ := List.mem_map.1 hk
      have := ha.t x.1 x.2 hx
      rw [(hw.ks x hx).2.2, hw.k] at this
      have e : x.1 = off A (1 - i) + y := e
      rw [e] at this
      exact this
    · rw [ha.n _ hk, hw.k]
      exact torn_self
end J
set_option linter.unusedVariables false
set_option linter.unusedSimpArgs false
set_option maxRecDepth 100000
namespace J
open Go Go.Ab
variable {d d' d0 d1 : Dv} {m m' : Mp} {s x : List Int} {l ss tt pre rest : List (List Int)} {A B k : Nat} {b : Int} {F last : Nat} {body : List Int} {now more : List (List Int)} {t : Jn}
/-! begin and append, plainly -/
def Rdy (d : Dv) (A B : Nat) (i : Int) (pos : Int) (F last : Nat) (now : List (List Int)) : Prop := ∃ pre n, bk d A B i = pre ++ List.replicate n blank ∧ Pre pre ⟨now, F, last⟩ ∧ pos = (pre.length : Int) ∧ pre ≠ []
structure Up (t : Jn) (m : Mp) (A B : Nat) (now : List (List Int)) : Prop where
  up : m.d.down = false
  done : m.d.done = []
  sk : ∀ j, sn m.d j = kp m.d j
  st : ∃ F, Jst m.d A B t.now F t.last now ∧ (t.ready = true → Rdy m.d A B t.now t.pos F t.last now)
structure Wd (m : Mp) (A B k : Nat) : Prop where
  two : Two m A B
  wear : ∀ j, wr m.d j ≤ k
  most : m.d.most = 10000
structure Jab (t : Jn) : Prop where
  a : t.a = 0
  b : t.b = 1
theorem Up.wt (h : Up t m A B now) : Wt m.d := ⟨by rw [h.done]; simp [keys], (by rw [h.done]; intro x hx; cases hx), (by rw [h.done]; intro i w hi; cases hi), fun i _ => h.sk i⟩
theorem jab_bank (h : Jab t) {i : Int} (hi : Bit i) : t.bank i = i := by
  unfold Jn.bank
  rcases hi with rfl | rfl
  · rw [if_pos rfl]; exact h.a
  · rw [if_neg (by omega)]; exact h.b
/-- power went out on the way: begun anew, one of both stands there -/
structure Fell (t : Jn) (m : Mp) (A B : Nat) (last0 : Nat) (now more : List (List Int)) : Prop where
  dn : m.d.down = true
  wt : Wt m.d
  nr : t.ready = false
  nw : ∀ d', Anew m.d d' → ∃ i F last now', (now' = now ∨ now' = more) ∧ Jst d' A B i F last now' ∧ last ≤ last0 + 1
/-- what an act comes to -/
def ActR (t : Jn) (m : Mp) (A B k : Nat) (b : Int) (now more : List (List Int)) (R : Jn × Mp × Int) : Prop :=
  R.2.1.spans = m.spans ∧ (OpsB b m.ops → OpsB b R.2.1.ops) ∧ Wd R.2.1 A B (k + 1) ∧ Jab R.1 ∧
  ((R.2.2 = 0 ∧ Up R.1 R.2.1 A B more ∧ R.1.ready = true ∧ R.1.last = t.last + 1 ∧ (m.d.budget < 0 → R.2.1.d.budget = m.d.budget)) ∨
   (R.2.2 = 62 ∧ 0 ≤ m.d.budget ∧ Fell R.1 R.2.1 A B t.last now more ∧ R.1.last = t.last))
theorem stands_row {r : Row} {n : Nat} (h : Pre pre r) (e : ss = pre ++ List.replicate n blank) : fStands ss = r := by rw [e]; exact h.stands
theorem bk_hold {i : Int} {n y : Nat} (hp : bk d A B i = pre ++ List.replicate n blank) (h : y < siz A B i) : (∀ h1 : y < pre.length, kp d (off A i + y) = pre[y]) ∧ (pre.length ≤ y → kp d (off A i + y) = blank) := by
  have hlen : (bk d A B i).length = siz A B i := bk_len
  have h0 := bk_get (d := d) (A := A) (B := B) (b := i) (y := y) (by rw [bk_len]; exact h)
  have h1 : (bk d A B i)[y]? = some (kp d (off A i + y)) := by rw [List.getElem?_eq_getElem (by omega), h0]
  rw [hp] at h1 hlen
  simp at hlen
  refine ⟨fun h2 => ?_, fun h2 => ?_⟩
  · rw [List.getElem?_append_left h2, List.getElem?_eq_getElem h2] at h1
    injection h1 with h1; exact h1.symm
  · rw [List.getElem?_append_right h2, List.getElem?_replicate, if_pos (by omega)] at h1
    injection h1 with h1; exact h1.symm
theorem bk_write {i : Int} {a : Nat} (hi : Bit i) (hw : ∀ k (h : k < l.length), kp d' (off A i + a + k) = l[k]) (ho : ∀ j, (j < off A i + a ∨ off A i + a + l.length ≤ j) → kp d' j = kp d j) (n : Nat) (hp : bk d A B i = pre ++ List.replicate n blank) (ha : a = pre.length) (hn : l.length ≤ n) :
    bk d' A B i = pre ++ l ++ List.replicate (n - l.length) blank := by
  have hlen : (bk d A B i).length = siz A B i := bk_len
  rw [hp] at hlen
  simp at hlen
  apply List.ext_getElem
  · rw [bk_len]; simp; omega
  · intro y g1 g2
    rw [bk_get]
    rw [bk_len] at g1
    by_cases h1 : y < pre.length
    · rw [List.getElem_append_left (by simp; omega), List.getElem_append_left h1, ho _ (.inl (by omega))]
      exact (bk_hold hp g1).1 h1
    · by_cases h2 : y < pre.length + l.length
      · rw [List.getElem_append_left (by simp; omega), List.getElem_append_right (by omega)]
        have := hw (y - pre.length) (by omega)
        rw [show off A i + a + (y - pre.length) = off A i + y by omega] at this
        exact this
      · rw [List.getElem_append_right (by simp; omega), List.getElem_replicate, ho _ (.inr (by omega))]
        exact (bk_hold hp g1).2 (by omega)
/-- the same, where power went out -/
theorem bk_torn {i : Int} {a c : Nat} (hi : Bit i) (hd : d.done = []) (hk : ∀ j, kp d1 j = kp d j) (hdn : d1.done = (pl (off A i + a) l).take c) (ha : Anew d1 d') (n : Nat) (hp : bk d A B i = pre ++ List.replicate n blank) (hpa : a = pre.length) (hn : l.length ≤ n) :
    ∃ uu, bk d' A B i = pre ++ uu ∧ uu.length = n ∧ (∀ y (h : y < l.length) (h' : y < uu.length), Torn blank l[y] uu[y]) ∧ ∀ y (h' : y < uu.length), l.length ≤ y → uu[y] = blank := by
  have hlen : (bk d A B i).length = siz A B i := bk_len
  rw [hp] at hlen
  simp at hlen
  have hin : ∀ x ∈ d1.done, ∃ y, ∃ h : y < l.length, x = (off A i + a + y, l[y]) := fun x hx => by
    rw [hdn] at hx
    exact pl_mem (List.mem_of_mem_take hx)
  have hold : ∀ y (h : y < siz A B i), kp d (off A i + y) = (pre ++ List.replicate n blank)[y]'(by simp; omega) := fun y h => by
    have := bk_get (d := d) (A := A) (B := B) (b := i) (y := y) (by rw [bk_len]; exact h)
    rw [← this]
    simp [hp]
  refine ⟨(bk d' A B i).drop pre.length, ?_, by rw [List.length_drop, bk_len]; omega, fun y h h' => ?_, fun y h' hy => ?_⟩
  · have e : bk d' A B i = (bk d' A B i).take pre.length ++ (bk d' A B i).drop pre.length := (List.take_append_drop _ _).symm
    have e2 : (bk d' A B i).take pre.length = pre := by
      apply List.ext_getElem
      · rw [List.length_take, bk_len]; omega
      · intro y g1 g2
        rw [List.getElem_take, bk_get, ha.n _ (fun hk => ?_), hk, hold y (by omega), List.getElem_append_left g2]
        obtain ⟨x, hx, e⟩ := List.mem_map.1 hk
        obtain ⟨z, hz, rfl⟩ := hin x hx
        have e : off A i + a + z = off A i + y := e
        omega
    rw [e2] at e
    exact e
  · rw [List.getElem_drop, bk_get]
    by_cases hkk : off A i + (pre.length + y) ∈ keys d1.done
    · obtain ⟨x, hx, e⟩ := List.mem_map.1 hkk
      obtain ⟨z, hz, rfl⟩ := hin x hx
      have e : off A i + a + z = off A i + (pre.length + y) := e
      have hzy : z = y := by omega
      subst hzy
      have := ha.t _ _ hx
      rw [hk, e, hold _ (by omega), List.getElem_append_right (by omega), List.getElem_replicate] at this
      exact this
    · rw [ha.n _ hkk, hk, hold _ (by omega), List.getElem_append_right (by omega), List.getElem_replicate]
      exact ⟨0, by omega, by simp⟩
  · rw [List.length_drop, bk_len] at h'
    rw [List.getElem_drop, bk_get, ha.n _ (fun hk => ?_), hk, hold _ (by omega), List.getElem_append_right (by omega), List.getElem_replicate]
    obtain ⟨x, hx, e⟩ := List.mem_map.1 hk
    obtain ⟨z, hz, rfl⟩ := hin x hx
    have e : off A i + a + z = off A i + (pre.length + y) := e
    omega
theorem bk_other {i : Int} {a : Nat} (hi : Bit i) (hk : ∀ j, (j < off A i + a ∨ off A i + a + l.length ≤ j) → kp d' j = kp d j) (hl : a + l.length ≤ siz A B i) : bk d' A B (1 - i) = bk d A B (1 - i) := by
  refine bk_eq fun y hy => hk _ ?_
  by_cases h1 : off A (1 - i) + y < off A i + a
  · exact .inl h1
  · refine .inr ?_
    by_cases h2 : off A i + a + l.length ≤ off A (1 - i) + y
    · exact h2
    · have := off_apart (A := A) (B := B) (i := 1 - i) (bit_other hi) (j := off A (1 - i) + y) (y := y) (by rw [show (1 : Int) - (1 - i) = i by omega]; omega) (by rw [show (1 : Int) - (1 - i) = i by omega]; omega) hy
      omega
theorem bk_other_torn {i : Int} {a c : Nat} (hi : Bit i) (hk : ∀ j, kp d1 j = kp d j) (hdn : d1.done = (pl (off A i + a) l).take c) (ha : Anew d1 d') (hl : a + l.length ≤ siz A B i) : bk d' A B (1 - i) = bk d A B (1 - i) := by
  refine bk_other (l := l) (a := a) hi (fun j hj => ?_) hl
  rw [ha.n, hk]
  intro hkk
  obtain ⟨x, hx, e⟩ := List.mem_map.1 hkk
  rw [hdn] at hx
  obtain ⟨z, hz, rfl⟩ := pl_mem (List.mem_of_mem_take hx)
  have e : off A i + a + z = j := e
  omega
/-- a new base stands alone in its bank -/
theorem jst_base {i : Int} {n : Nat} (hi : Bit i) (h : HeadLt (bk d' A B (1 - i)) (last + 1)) (hb : bk d' A B i = fPut 1 (last + 1) body ++ List.replicate n blank) (hl : body.length ≤ 4000) (hq : last + 1 < 2 ^ 64) : Jst d' A B i (last + 1) (last + 1) [body] := by
  have hs := stands_row (pre_base (body := body) (seq := last + 1) hl hq) hb
  refine ⟨hi, by rw [hs], by rw [hs], fun _ => by rw [hs], fun hn => absurd hn (by simp), Nat.le_refl _, h.oth, ?_⟩
  rw [hb]
  exact headLt_put hl (by omega) hq (by omega)
theorem begin_up (hw : Wd m A B k) (hk : k + 1 < 10000) (hu : Up t m A B now) (hab : Jab t) (hr : t.room m body.length) (hlast : t.last + 1 < 2 ^ 62) :
    ActR t m A B k (1 - t.now) now [body] (jBegin t m body) ∧ ((jBegin t m body).2.2 = 0 → (jBegin t m body).1.now = 1 - t.now) := by
  obtain ⟨F, hj, _⟩ := hu.st
  have hi := hj.i01
  have ho := bit_other hi
  have hbank := jab_bank hab ho
  have hr0 := Decidable.not_not.1 (show ¬ ¬ t.fits m body.length from fun h => hr (.inl h))
  have hsz : fSize body.length ≤ siz A B (1 - t.now) := by
    have h1 := hr0.2.1
    have h2 := hr0.2.2
    rw [hab.a, two_size hw.two (.inl rfl)] at h1
    rw [hab.b, two_size hw.two (.inr rfl)] at h2
    rcases ho with h | h <;> rw [h] <;> assumption
  have hl4 : body.length ≤ 4000 := by
    have := hr0.1
    unfold fSize at this
    by_cases h : (body.length : Int) < 0 ∨ 4000 < (body.length : Int)
    · rw [if_pos h] at this; omega
    · omega
  have hll : (fPut 1 (t.last + 1) body).length ≤ siz A B (1 - t.now) := by rw [fPut_size]; exact hsz
  have w0 : ∀ j, wr m.d j < m.d.most := fun j => by have := hw.wear j; rw [hw.most]; omega
  have hW := wipe_run hw.two ho hu.up hu.done hu.wt w0
  unfold jBegin
  rw [if_neg (fun h => h hr)]
  simp only
  rw [hbank]
  obtain ⟨v1, v2, v3, v4⟩ := hW
  generalize m.wipe (1 - t.now) = W at *
  have t1 : Two W.1 A B := two_of hw.two v1 v3.len
  rcases v4 with ⟨u1, u2, u3⟩ | ⟨u1, u2, u3⟩
  · rw [if_neg (by rw [u1]; simp)]
    have sy : W.1.sync = ({ W.1 with d := W.1.d.sync.1 }, W.1.d.sync.2) := rfl
    rcases sync_cases u2 v3.wt with ⟨c1, c2⟩ | ⟨c1, c2⟩
    · rw [if_pos (by rw [sy]; show W.1.d.sync.2 ≠ 0; rw [c1]; decide)]
      have hv := v3.out c2
      refine ⟨⟨v1, v2, ⟨two_of t1 rfl (by show W.1.d.sync.1.cells.length = _; rw [c2.s.c]), fun j => by have h3 := hv.w1 j; have h4 := hw.wear j; show wr W.1.d.sync.1 j ≤ ((k + 1 : Nat) : Int); omega, by show W.1.d.sync.1.most = _; rw [hv.m, hw.most]⟩, ⟨hab.a, hab.b⟩, .inr ⟨c1, ?_, ⟨c2.dn, c2.s.wt v3.wt, rfl, fun d' ha => ⟨t.now, F, t.last, now, .inl rfl, jst_wip hj hv ha, by omega⟩⟩, rfl⟩⟩, fun h => ?_⟩
      · by_cases hlt : m.d.budget < 0
        · have := v3.bud hlt; have := c2.b; omega
        · omega
      · exact absurd (c1.symm.trans h) (by decide)
    · rw [if_neg (by rw [sy]; show ¬ W.1.d.sync.2 ≠ 0; rw [c1]; simp)]
      rw [sy]
      simp only
      generalize hY : ({ W.1 with d := W.1.d.sync.1 } : Mp) = Y at *
      have hYd : Y.d = W.1.d.sync.1 := by rw [← hY]
      have hYs : Y.spans = W.1.spans := by rw [← hY]
      have hYo : Y.ops = W.1.ops := by rw [← hY]
      have t2 : Two Y A B := two_of t1 hYs (by rw [hYd, c2.len])
      have hblank : ∀ y, y < siz A B (1 - t.now) → kp Y.d (off A (1 - t.now) + y) = blank := fun y hy => by rw [hYd, c2.k]; exact u3 y hy
      have hbo : bk Y.d A B (1 - t.now) = [] ++ List.replicate (siz A B (1 - t.now)) blank := by
        rw [List.nil_append]
        apply List.ext_getElem
        · rw [bk_len, List.length_replicate]
        · intro y g1 g2
          rw [bk_get, List.getElem_replicate]
          rw [bk_len] at g1
          exact hblank y g1
      have hbi : bk Y.d A B t.now = bk m.d A B t.now := bk_eq fun y hy => by
        have hnk : off A t.now + y ∉ keys W.1.d.done := fun hkk => by
          obtain ⟨x, hx, e⟩ := List.mem_map.1 hkk
          obtain ⟨k1, k2, _⟩ := v3.ks x hx
          exact off_apart hi k1 k2 hy e.symm
        rw [hYd, c2.k, v3.wt.n _ hnk, v3.k]
      have eoo : (1 : Int) - (1 - t.now) = t.now := by omega
      have hYwt : Wt Y.d := by rw [hYd]; exact c2.wt
      have hYdone : Y.d.done = [] := by rw [hYd]; exact c2.w
      have hYsn : ∀ j, sn Y.d j = kp Y.d j := fun j => by rw [hYd, c2.s, c2.k]
      have hR := write_run (b := 1 - t.now) ho (fPut 1 (t.last + 1) body) 0 Y (by omega) t2 (by rw [hYd]; exact c2.up) hYwt (fun y _ hy => ⟨by rw [hYsn]; exact hblank y (by omega), by rw [hYdone]; simp [keys]⟩)
      have e0 : ((0 : Nat) : Int) = 0 := rfl
      rw [e0] at hR
      obtain ⟨q1, q2, q3, q4, q5, q6, q7⟩ := hR
      have hfin : ∀ Z : Mp, Z.spans = Y.spans → Z.d.cells.length = Y.d.cells.length → Z.d.most = Y.d.most → (∀ j, wr Z.d j = wr Y.d j) → Wd Z A B (k + 1) := fun Z z1 z2 z3 z4 => by
        refine ⟨two_of t2 z1 z2, fun j => ?_, by rw [z3, hYd, c2.m, v3.m, hw.most]⟩
        rw [z4, hYd, c2.wr]
        have h3 := v3.w1 j
        have h4 := hw.wear j
        omega
      have hWd := hfin _ q1 q3 q4 q5
      generalize mWrite (1 - t.now) 0 (fPut 1 (t.last + 1) body) Y = Z at *
      rcases q7 with ⟨r1, r2, r3, r4, r5, r6⟩ | ⟨r1, r2, r3, r4, r5, c, r6, r7⟩
      · rw [if_neg (by rw [r1]; simp)]
        have r6' : ∀ j, (j < off A (1 - t.now) + 0 ∨ off A (1 - t.now) + 0 + (fPut 1 (t.last + 1) body).length ≤ j) → kp Z.1.d j = kp Y.d j := fun j hj => by rw [r6 j hj, hYsn]
        have z1 := bk_write (pre := []) ho r5 r6' _ hbo rfl hll
        have z2 := bk_other (A := A) (B := B) ho r6' (by omega)
        rw [eoo, hbi] at z2
        rw [List.nil_append] at z1
        have hjst : Jst Z.1.d A B (1 - t.now) (t.last + 1) (t.last + 1) [body] := jst_base ho (by rw [eoo, z2]; exact hj.own) z1 hl4 (by omega)
        have hne : fPut 1 (t.last + 1) body ≠ [] := fun h => by have := fPut_many (kind := 1) (seq := t.last + 1) hl4; rw [h] at this; simp at this; omega
        refine ⟨⟨by show Z.1.spans = _; rw [q1, hYs, v1], fun h => q2 (by rw [hYo]; exact v2 h), hWd, ⟨hab.a, hab.b⟩, .inl ⟨rfl, ⟨r2, r3, r4, _, hjst, fun _ => ⟨_, _, z1, pre_base hl4 (by omega), rfl, hne⟩⟩, rfl, rfl, fun hb => ?_⟩⟩, fun _ => rfl⟩
        have g1 := v3.bud hb
        have g2 := c2.bud (by omega)
        have g3 := q6 (by rw [hYd, g2]; omega)
        show Z.1.d.budget = _
        rw [g3, hYd, g2, g1]
      · rw [if_pos (by rw [r1]; decide)]
        rw [hYdone, List.nil_append, Nat.add_zero] at r7
        refine ⟨⟨by show Z.1.spans = _; rw [q1, hYs, v1], fun h => q2 (by rw [hYo]; exact v2 h), hWd, ⟨hab.a, hab.b⟩, .inr ⟨r1, ?_, ⟨r2, r4, rfl, fun d' ha => ?_⟩, rfl⟩⟩, fun h => absurd (r1.symm.trans h) (by decide)⟩
        · by_cases hlt : m.d.budget < 0
          · have g1 := v3.bud hlt
            have g2 := c2.bud (by omega)
            rw [hYd, g2] at r3; omega
          · omega
        · obtain ⟨uu, x1, x2, x3, x4⟩ := bk_torn (a := 0) (pre := []) ho hYdone r5 r7 ha _ hbo rfl hll
          rw [List.nil_append] at x1
          have z2 := bk_other_torn (a := 0) (B := B) ho r5 r7 ha (by omega)
          rw [eoo, hbi] at z2
          rcases torn_frame (n := siz A B (1 - t.now) - (fPut 1 (t.last + 1) body).length) hl4 (by omega) (by omega) (by rw [x2]; omega) x3 x4 with hf | hf
          · exact ⟨1 - t.now, t.last + 1, t.last + 1, [body], .inr rfl, jst_base ho (by rw [eoo, z2]; exact hj.own) (x1.trans hf) hl4 (by omega), Nat.le_refl _⟩
          · exact ⟨t.now, F, t.last, now, .inl rfl, ⟨hi, by rw [z2]; exact hj.bod, by rw [z2]; exact hj.lst, fun hn => by rw [z2]; exact hj.fst hn, hj.nil, hj.le, by rw [x1]; exact oth_none hf, by rw [z2]; exact hj.own⟩, by omega⟩
  · rw [if_pos (by rw [u1]; decide)]
    exact ⟨⟨v1, v2, ⟨t1, fun j => by have h3 := v3.w1 j; have h4 := hw.wear j; show wr W.1.d j ≤ ((k + 1 : Nat) : Int); omega, by show W.1.d.most = _; rw [v3.m, hw.most]⟩, ⟨hab.a, hab.b⟩, .inr ⟨u1, u3, ⟨u2, v3.wt, rfl, fun d' ha => ⟨t.now, F, t.last, now, .inl rfl, jst_wip hj v3 ha, by omega⟩⟩, rfl⟩⟩, fun h => absurd (u1.symm.trans h) (by decide)⟩
theorem append_up (hw : Wd m A B k) (hk : k + 1 < 10000) (hu : Up t m A B now) (hab : Jab t) (hrd : t.ready = true) (hm : t.more m (fPut 2 (t.last + 1) body).length) (hlast : t.last + 1 < 2 ^ 62) :
    ActR t m A B k t.now now (now ++ [body]) (jAppend t m body) := by
  obtain ⟨F, hj, hrdy⟩ := hu.st
  obtain ⟨pre, n, p1, p2, p3, p4⟩ := hrdy hrd
  have hi := hj.i01
  have hbank := jab_bank hab hi
  have hlen : (bk m.d A B t.now).length = siz A B t.now := bk_len
  rw [p1] at hlen
  simp at hlen
  have hleft : t.left m = (n : Int) := by
    unfold Jn.left
    rw [if_neg (by simp [hrd]), hbank, two_size hw.two hi, p3]; omega
  have hm0 : (fPut 2 (t.last + 1) body).length ≠ 0 := fun h => hm (.inl h)
  have hm1 : ¬ t.left m < (fPut 2 (t.last + 1) body).length := fun h => hm (.inr (.inl h))
  have hll : (fPut 2 (t.last + 1) body).length ≤ n := by rw [hleft] at hm1; omega
  have hl4 : body.length ≤ 4000 := by
    by_cases h : body.length ≤ 4000
    · exact h
    · exact absurd (show (fPut 2 (t.last + 1) body).length = 0 by unfold fPut; rw [if_pos (by omega)]; rfl) hm0
  unfold jAppend
  rw [if_neg (by simp [hrd])]
  simp only
  rw [if_neg (fun h => h hm), hbank, p3]
  have hR := write_run (b := t.now) hi (fPut 2 (t.last + 1) body) pre.length m (by omega) hw.two hu.up hu.wt (fun y hy1 hy2 => ⟨by
    rw [hu.sk]
    exact (bk_hold p1 (by omega)).2 hy1, by rw [hu.done]; simp [keys]⟩)
  obtain ⟨q1, q2, q3, q4, q5, q6, q7⟩ := hR
  have hWd : Wd (mWrite t.now pre.length (fPut 2 (t.last + 1) body) m).1 A B (k + 1) := ⟨two_of hw.two q1 q3, fun j => by rw [q5]; have := hw.wear j; omega, by rw [q4, hw.most]⟩
  generalize mWrite t.now pre.length (fPut 2 (t.last + 1) body) m = Z at *
  have hpre2 := pre_next (body := body) p2 hl4 (show t.last + 1 < 2 ^ 64 by omega)
  have hown : ∀ {uu : List (List Int)}, HeadLt (pre ++ uu) (t.last + 1) := fun {uu} => headLt_pre (rest := List.replicate n blank) (by rw [← p1]; exact hj.own) p4
  rcases q7 with ⟨r1, r2, r3, r4, r5, r6⟩ | ⟨r1, r2, r3, r4, r5, c, r6, r7⟩
  · rw [if_neg (by rw [r1]; simp)]
    have r6' : ∀ j, (j < off A t.now + pre.length ∨ off A t.now + pre.length + (fPut 2 (t.last + 1) body).length ≤ j) → kp Z.1.d j = kp m.d j := fun j hj => by rw [r6 j hj, hu.sk]
    have z1 := bk_write hi r5 r6' _ p1 rfl hll
    have z2 := bk_other (A := A) (B := B) hi r6' (by omega)
    have hs := stands_row hpre2 z1
    refine ⟨q1, q2, hWd, ⟨hab.a, hab.b⟩, .inl ⟨rfl, ⟨r2, r3, r4, F, ⟨hi, by show (fStands (bk Z.1.d A B t.now)).bodies = _; rw [hs], by show (fStands (bk Z.1.d A B t.now)).last = _; rw [hs], fun _ => by show (fStands (bk Z.1.d A B t.now)).first = _; rw [hs], fun h => absurd h (by simp), by show F ≤ t.last + 1; have := hj.le; omega, by show Oth (bk Z.1.d A B (1 - t.now)) F; rw [z2]; exact hj.oth, ?_⟩, fun _ => ⟨_, _, z1, hpre2, ?_, ?_⟩⟩, hrd, rfl, q6⟩⟩
    · show HeadLt (bk Z.1.d A B t.now) (t.last + 1 + 1)
      rw [z1, List.append_assoc]
      exact hown.mono (by omega)
    · show (pre.length : Int) + _ = _
      simp
    · simp [p4]
  · rw [if_pos (by rw [r1]; decide)]
    rw [hu.done, List.nil_append] at r7
    refine ⟨q1, q2, hWd, ⟨hab.a, hab.b⟩, .inr ⟨r1, r3, ⟨r2, r4, rfl, fun d' ha => ?_⟩, rfl⟩⟩
    obtain ⟨uu, x1, x2, x3, x4⟩ := bk_torn hi hu.done r5 r7 ha _ p1 rfl hll
    have z2 := bk_other_torn (B := B) hi r5 r7 ha (by omega)
    have hhd : HeadLt (bk d' A B t.now) (t.last + 1) := by rw [x1]; exact hown
    rcases torn_frame (n := n - (fPut 2 (t.last + 1) body).length) hl4 (by omega) (show t.last + 1 < 2 ^ 64 by omega) (by rw [x2]; omega) x3 x4 with hf | hf
    · have hs : fStands (bk d' A B t.now) = _ := stands_row hpre2 (by rw [x1, hf, ← List.append_assoc])
      exact ⟨t.now, F, t.last + 1, now ++ [body], .inr rfl, ⟨hi, by rw [hs], by rw [hs], fun _ => by rw [hs], fun h => absurd h (by simp), by have := hj.le; omega, by rw [z2]; exact hj.oth, hhd.mono (by omega)⟩, Nat.le_refl _⟩
    · have hs : fStands (bk d' A B t.now) = ⟨now, F, t.last⟩ := by rw [x1]; exact p2.stop (hf uu ers_self)
      exact ⟨t.now, F, t.last, now, .inl rfl, ⟨hi, by rw [hs], by rw [hs], fun _ => by rw [hs], hj.nil, hj.le, by rw [z2]; exact hj.oth, hhd⟩, by omega⟩
/-! down: nothing changes -/
theorem wipeN_down (hb : Bit b) (hu : m.d.down = true) (h2 : Two m A B) : ∀ (n y : Nat), y + n = siz A B b → (Mp.wipeN b n y m) = (m, 0) ∨ (Mp.wipeN b n y m) = (m, 62)
  | 0, y, h => .inl rfl
  | n + 1, y, h => by
    rw [Mp.wipeN_succ]
    split
    · exact wipeN_down hb hu h2 n (y + 1) (by omega)
    · have e : m.erase b y = (m, 62) := by
        unfold Mp.erase
        rw [two_place h2 hb (by omega), if_neg (by simp), erase_down (two_fit h2 hb (by omega)) hu]
        rfl
      rw [e, if_pos (show (62 : Int) ≠ 0 by decide)]
      exact .inr rfl
theorem begin_down (h2 : Two m A B) (hu : m.d.down = true) (hab : Jab t) (hi : Bit t.now) : jBegin t m body = (t, m, 92) ∨ jBegin t m body = ({ t with ready := false }, m, 62) := by
  unfold jBegin
  split
  · exact .inl rfl
  right
  simp only
  rw [jab_bank hab (bit_other hi)]
  have hs : m.sync = (m, 62) := by
    unfold Mp.sync
    rw [sync_down hu]
  have hwp : m.wipe (1 - t.now) = Mp.wipeN (1 - t.now) (siz A B (1 - t.now)) 0 m := by
    unfold Mp.wipe
    rw [if_neg (fun h => h (two_has h2 (bit_other hi)).1), two_size h2 (bit_other hi)]
  rw [hwp]
  rcases wipeN_down (bit_other hi) hu h2 (siz A B (1 - t.now)) 0 (by omega) with h | h
  · rw [h, if_neg (by simp), hs, if_pos (show (62 : Int) ≠ 0 by decide)]
  · rw [h, if_pos (show (62 : Int) ≠ 0 by decide)]
end J
set_option linter.unusedVariables false
set_option linter.unusedSimpArgs false
set_option maxRecDepth 100000
namespace J
open Go Go.Ab
variable {d d' d0 d1 : Dv} {m m' : Mp} {s x : List Int} {l ss tt : List (List Int)} {A B k : Nat} {b part pos : Int} {body : List Int} {t : Jn} {a : Int}
/-! all are bytes -/
structure Cell.By (c : Cell) : Prop where
  k : J.By c.kept
  s : J.By c.seen
structure BD (d : Dv) : Prop where
  c : ∀ c ∈ d.cells, c.By
  w : ∀ x ∈ d.done, By x.2
theorem by_blank : By blank := fun x hx => by rw [List.eq_of_mem_replicate hx]; omega
theorem by_zeros : By zeros := fun x hx => by rw [List.eq_of_mem_replicate hx]; omega
theorem by_take (h : By s) (n : Nat) : By (s.take n) := fun x hx => h x (List.mem_of_mem_take hx)
theorem by_drop (h : By s) (n : Nat) : By (s.drop n) := fun x hx => h x (List.mem_of_mem_drop hx)
theorem getD_by {l : List Cell} {n : Nat} (h : ∀ c ∈ l, c.By) : (l.getD n zCell).By := by
  rw [List.getD_eq_getElem?_getD]
  by_cases hn : n < l.length
  · rw [List.getElem?_eq_getElem hn]; exact h _ (List.getElem_mem hn)
  · rw [List.getElem?_eq_none (by omega)]; exact ⟨by_zeros, by_zeros⟩
theorem mem_set_by {l : List Cell} {i : Nat} {c : Cell} (h : ∀ c ∈ l, c.By) (hc : c.By) : ∀ x ∈ l.set i c, x.By := by
  intro x hx
  rcases List.mem_or_eq_of_mem_set hx with h' | h'
  · exact h x h'
  · rw [h']; exact hc
theorem step_bd (h : BD d) : BD d.step := ⟨h.c, h.w⟩
theorem cell_by (h : BD d) : (d.cell a).By := getD_by h.c
theorem put_bd (h : BD d) (hs : By s) : BD (d.put a s) := ⟨mem_set_by h.c ⟨(cell_by h).k, hs⟩, fun x hx => by
  rcases List.mem_append.1 hx with hx | hx
  · exact h.w x hx
  · have : x = (a.toNat, s) := by simpa using hx
    subst this; exact hs⟩
theorem erase_bd (h : BD d) : BD (d.erase a).1 := by
  unfold Dv.erase
  split
  · exact h
  split
  · exact h
  split
  · exact h
  split
  · exact step_bd h
  · exact put_bd (d := d.step.upd a { d.cell a with wear := (d.cell a).wear + 1 }) ⟨mem_set_by h.c ⟨(cell_by h).k, (cell_by h).s⟩, h.w⟩ by_blank
theorem program_bd (h : BD d) (hs : By s) : BD (d.program a s).1 := by
  unfold Dv.program
  split
  · exact h
  split
  · exact h
  split
  · exact h
  split
  · exact step_bd h
  · exact put_bd (step_bd h) hs
theorem keepAll_by : ∀ (l : List (Nat × List Int)) (cs : List Cell), (∀ c ∈ cs, c.By) → (∀ x ∈ l, By x.2) → ∀ c ∈ keepAll cs l, c.By
  | [], _, h, _ => h
  | x :: l, cs, h, hl => keepAll_by l (keep1 cs x) (mem_set_by h ⟨hl x List.mem_cons_self, (getD_by h).s⟩) fun y hy => hl y (List.mem_cons_of_mem _ hy)
theorem tearAll_by : ∀ (l : List ((Nat × List Int) × Int)) (cs : List Cell), (∀ c ∈ cs, c.By) → (∀ x ∈ l, By x.1.2) → ∀ c ∈ tearAll cs l, c.By
  | [], _, h, _ => h
  | x :: l, cs, h, hl => tearAll_by l (tear1 cs x.1 x.2) (mem_set_by h ⟨By.app' (by_take (hl x List.mem_cons_self) _) (by_drop (getD_by h).k _), (getD_by h).s⟩) fun y hy => hl y (List.mem_cons_of_mem _ hy)
theorem seeAll_by : ∀ (l : List (Nat × List Int)) (cs : List Cell), (∀ c ∈ cs, c.By) → ∀ c ∈ seeAll cs l, c.By
  | [], _, h => h
  | x :: l, cs, h => seeAll_by l (see1 cs x) (mem_set_by h ⟨(getD_by h).k, (getD_by h).k⟩)
theorem sync_bd (h : BD d) : BD d.sync.1 := by
  unfold Dv.sync
  split
  · exact h
  split
  · exact step_bd h
  · exact ⟨keepAll_by _ _ h.c h.w, fun x hx => by cases hx⟩
theorem restart_bd (h : BD d) (ks : List Int) : BD (d.restart ks) := ⟨seeAll_by _ _ (tearAll_by _ _ h.c fun x hx => h.w x.1 (List.of_mem_zip hx).1), fun x hx => by cases hx⟩
theorem new_bd {n : Nat} {w : Int} : BD (Dv.new n w) := ⟨fun c hc => by rw [(List.mem_replicate.1 hc).2]; exact ⟨by_blank, by_blank⟩, fun x hx => by cases hx⟩
theorem note_bd {o : Op} {e : Int} (h : BD m.d) : BD (m.note o e).d := by rw [Mp.note_d]; exact h
theorem mErase_bd (h : BD m.d) : BD (m.erase part pos).1.d := by
  unfold Mp.erase
  split
  · exact h
  · exact note_bd (m := { m with d := _ }) (erase_bd h)
theorem mProgram_bd (h : BD m.d) (hs : By s) : BD (m.program part pos s).1.d := by
  unfold Mp.program
  split
  · exact h
  · exact note_bd (m := { m with d := _ }) (program_bd h hs)
theorem wipeN_bd : ∀ (n y : Nat) (m : Mp), BD m.d → BD (Mp.wipeN part n y m).1.d
  | 0, _, m, h => h
  | n + 1, y, m, h => by
    rw [Mp.wipeN_succ]
    split
    · exact wipeN_bd n (y + 1) m h
    split
    · exact mErase_bd h
    · exact wipeN_bd n (y + 1) _ (mErase_bd h)
theorem wipe_bd (h : BD m.d) : BD (m.wipe part).1.d := by
  unfold Mp.wipe
  split
  · exact h
  · exact wipeN_bd _ _ _ h
theorem mWrite_bd : ∀ (l : List (List Int)) (a : Int) (m : Mp), BD m.d → (∀ s ∈ l, By s) → BD (mWrite b a l m).1.d
  | [], _, m, h, _ => sync_bd h
  | s :: r, a, m, h, hs => by
    rw [mWrite_cons]
    split
    · exact mProgram_bd h (hs s List.mem_cons_self)
    · exact mWrite_bd r _ _ (mProgram_bd h (hs s List.mem_cons_self)) fun x hx => hs x (List.mem_cons_of_mem _ hx)
theorem padS_by (h : By s) : By (padS s) := by
  refine By.app' h (By.app' (fun x hx => ?_) (fun x hx => ?_))
  · rw [List.eq_of_mem_replicate hx]; omega
  · have : x = 0 := by simpa using hx
    omega
theorem fPut_by {kind seq : Nat} (hk : kind < 256) (hb : By body) : ∀ s ∈ fPut kind seq body, By s := by
  intro s hs
  unfold fPut at hs
  split at hs
  · cases hs
  · obtain ⟨i, _, rfl⟩ := List.mem_map.1 hs
    exact padS_by (by_take (by_drop (By.app' (head_by hk hb) (leN_by _ _)) _) _)
theorem begin_bd (h : BD m.d) (hb : By body) : BD (jBegin t m body).2.1.d := by
  unfold jBegin
  split
  · exact h
  simp only
  split
  · exact wipe_bd h
  have h2 : ∀ p, BD ((m.wipe p).1.sync).1.d := fun p => sync_bd (wipe_bd h)
  split
  · exact h2 _
  split
  · exact mWrite_bd _ _ _ (h2 _) (fPut_by (by omega) hb)
  · exact mWrite_bd _ _ _ (h2 _) (fPut_by (by omega) hb)
theorem append_bd (h : BD m.d) (hb : By body) : BD (jAppend t m body).2.1.d := by
  unfold jAppend
  split
  · exact h
  simp only
  split
  · exact h
  split
  · exact mWrite_bd _ _ _ h (fPut_by (by omega) hb)
  · exact mWrite_bd _ _ _ h (fPut_by (by omega) hb)
theorem secs_by (h : BD m.d) : ∀ s ∈ m.secs part, By s := by
  intro s hs
  obtain ⟨y, _, rfl⟩ := List.mem_map.1 hs
  unfold Mp.read
  split
  · exact by_zeros
  · unfold Dv.read
    split
    · exact (cell_by h).s
    · exact by_zeros
/-! a journal in use: all that the walks want to know -/
structure Use (A B k : Nat) (t : Jn) (m : Mp) : Prop where
  wd : Wd m A B k
  ok : m.Ok
  jok : t.Ok
  jab : Jab t
  sm : m.Sm (5000 * k)
  bd : BD m.d
  lk : t.last ≤ k
  bit : Bit t.now
/-- what is opened, after all: one of these -/
structure Dn (A B k : Nat) (t : Jn) (m : Mp) (poss : List (List (List Int))) : Prop where
  dn : m.d.down = true
  wt : Wt m.d
  nr : t.ready = false
  nw : ∀ d', Anew m.d d' → ∃ i F last now', now' ∈ poss ∧ Jst d' A B i F last now' ∧ last ≤ k
def HInv (A B k : Nat) (t : Jn) (m : Mp) (now : List (List Int)) (maybe : List (List (List Int))) : Prop := Use A B k t m ∧ ((Up t m A B now ∧ maybe = []) ∨ Dn A B k t m (now :: maybe))
theorem Wd.mono {k' : Nat} (h : Wd m A B k) (hk : k ≤ k') : Wd m A B k' := ⟨h.two, fun j => by have := h.wear j; omega, h.most⟩
theorem Use.mono {k' : Nat} (h : Use A B k t m) (hk : k ≤ k') : Use A B k' t m := ⟨h.wd.mono hk, h.ok, h.jok, h.jab, h.sm.mono (by omega), h.bd, by have := h.lk; omega, h.bit⟩
theorem Dn.mono {k' : Nat} {p : List (List (List Int))} (h : Dn A B k t m p) (hk : k ≤ k') : Dn A B k' t m p := ⟨h.dn, h.wt, h.nr, fun d' ha => by
  obtain ⟨i, F, last, now', h1, h2, h3⟩ := h.nw d' ha
  exact ⟨i, F, last, now', h1, h2, by omega⟩⟩
theorem Dn.more {p q : List (List (List Int))} (h : Dn A B k t m p) (hk : ∀ x ∈ p, x ∈ q) : Dn A B k t m q := ⟨h.dn, h.wt, h.nr, fun d' ha => by
  obtain ⟨i, F, last, now', h1, h2, h3⟩ := h.nw d' ha
  exact ⟨i, F, last, now', hk _ h1, h2, h3⟩⟩
theorem HInv.mono {k' : Nat} {now : List (List Int)} {maybe : List (List (List Int))} (h : HInv A B k t m now maybe) (hk : k ≤ k') : HInv A B k' t m now maybe := ⟨h.1.mono hk, by
  rcases h.2 with h2 | h2
  · exact .inl h2
  · exact .inr (h2.mono hk)⟩
theorem kp_len (ok : m.Ok) (j : Nat) : (kp m.d j).length = 64 := by
  unfold kp
  rw [List.getD_eq_getElem?_getD]
  by_cases hn : j < m.d.cells.length
  · rw [List.getElem?_eq_getElem hn]; exact (ok.d.c _ (List.getElem_mem hn)).k
  · rw [List.getElem?_eq_none (by omega)]; rfl
theorem jab_ready (h : Jab t) : Jab { t with ready := false } := ⟨h.a, h.b⟩
theorem begin_inv {now : List (List Int)} {maybe : List (List (List Int))} (h : HInv A B k t m now maybe) (hk : k + 1 < 10000) (hb : By body) :
    let R := jBegin t m body
    HInv A B (k + 1) R.1 R.2.1 (if R.2.2 = 0 then [body] else now) (if R.2.2 = 62 then maybe ++ [[body]] else maybe) ∧ (R.2.2 = 0 → maybe = []) := by
  intro R
  obtain ⟨hu, hs⟩ := h
  have u1 : R.2.1.Ok := jBegin_ok hu.ok
  have u2 : R.1.Ok := jBegin_jok hu.jok
  have u3 : R.2.1.Sm (5000 * (k + 1)) := (jBegin_sm hu.ok hu.sm).mono (by omega)
  have u4 : BD R.2.1.d := begin_bd hu.bd hb
  have lk := hu.lk
  by_cases hr : t.room m body.length
  · rcases hs with ⟨hup, rfl⟩ | hdn
    · obtain ⟨⟨r1, r2, r3, r4, r5⟩, r6⟩ := begin_up hu.wd hk hup hu.jab hr (by omega)
      rcases r5 with ⟨c1, c2, c3, c4, _⟩ | ⟨c1, _, c2, c3⟩
      · rw [if_pos c1, if_neg (show ¬ R.2.2 = 62 from fun h => by rw [show R.2.2 = 0 from c1] at h; cases h)]
        obtain ⟨F, hj, _⟩ := c2.st
        exact ⟨⟨⟨r3, u1, u2, r4, u3, u4, by have h4 : R.1.last = t.last + 1 := c4; show R.1.last ≤ k + 1; omega, hj.i01⟩, .inl ⟨c2, rfl⟩⟩, fun _ => rfl⟩
      · have e62 : R.2.2 = 62 := c1
        rw [if_neg (show ¬ R.2.2 = 0 from fun h => by rw [e62] at h; cases h), if_pos e62]
        refine ⟨⟨⟨r3, u1, u2, r4, u3, u4, by have h4 : R.1.last = t.last := c3; show R.1.last ≤ k + 1; omega, u2.n⟩, .inr ⟨c2.dn, c2.wt, c2.nr, fun d' ha => ?_⟩⟩, fun _ => rfl⟩
        obtain ⟨i, F, last, now', h1, h2, h3⟩ := c2.nw d' ha
        exact ⟨i, F, last, now', by rcases h1 with rfl | rfl <;> simp, h2, by omega⟩
    · have hdown : R = (t, m, 92) ∨ R = ({ t with ready := false }, m, 62) := begin_down hu.wd.two hdn.dn hu.jab hu.bit
      have hbase : Use A B (k + 1) { t with ready := false } m := ⟨hu.wd.mono (by omega), hu.ok, ⟨hu.jok.n, hu.jok.l, hu.jok.p⟩, jab_ready hu.jab, hu.sm.mono (by omega), hu.bd, by show t.last ≤ _; omega, hu.bit⟩
      rcases hdown with e | e
      · rw [e]
        exact ⟨⟨hu.mono (by omega), .inr (hdn.mono (by omega))⟩, fun h => by cases h⟩
      · rw [e]
        have hq : Dn A B (k + 1) { t with ready := false } m (now :: (maybe ++ [[body]])) := by
          have := (hdn.mono (k' := k + 1) (by omega)).more (q := now :: (maybe ++ [[body]])) (fun x hx => by
            rcases List.mem_cons.1 hx with rfl | hx
            · simp
            · simp [hx])
          exact ⟨this.dn, this.wt, rfl, this.nw⟩
        exact ⟨⟨hbase, .inr hq⟩, fun h => by cases h⟩
  · have e : R = (t, m, 92) := if_pos hr
    rw [e]
    exact ⟨(show HInv A B k t m now maybe from ⟨hu, hs⟩).mono (by omega), fun h => by cases h⟩
theorem append_inv {now : List (List Int)} {maybe : List (List (List Int))} (h : HInv A B k t m now maybe) (hk : k + 1 < 10000) (hb : By body) :
    let R := jAppend t m body
    HInv A B (k + 1) R.1 R.2.1 (if R.2.2 = 0 then now ++ [body] else now) (if R.2.2 = 62 then maybe ++ [now ++ [body]] else maybe) ∧ (R.2.2 = 0 → maybe = []) := by
  intro R
  have hm := h.mono (k' := k + 1) (by omega)
  obtain ⟨hu, hs⟩ := h
  have u1 : R.2.1.Ok := jAppend_ok hu.ok
  have u2 : R.1.Ok := jAppend_jok hu.ok hu.jok
  have u3 : R.2.1.Sm (5000 * (k + 1)) := (jAppend_sm hu.ok hu.sm).mono (by omega)
  have u4 : BD R.2.1.d := append_bd hu.bd hb
  have lk := hu.lk
  by_cases hrd : t.ready = false
  · have e : R = (t, m, 91) := if_pos hrd
    rw [e]
    exact ⟨hm, fun h => by cases h⟩
  by_cases hmo : t.more m (fPut 2 (t.last + 1) body).length
  · rcases hs with ⟨hup, rfl⟩ | hdn
    · obtain ⟨r1, r2, r3, r4, r5⟩ := append_up hu.wd hk hup hu.jab (by simpa using hrd) hmo (by omega)
      rcases r5 with ⟨c1, c2, c3, c4, _⟩ | ⟨c1, _, c2, c3⟩
      · rw [if_pos c1, if_neg (show ¬ R.2.2 = 62 from fun h => by rw [show R.2.2 = 0 from c1] at h; cases h)]
        obtain ⟨F, hj, _⟩ := c2.st
        exact ⟨⟨⟨r3, u1, u2, r4, u3, u4, by have h4 : R.1.last = t.last + 1 := c4; show R.1.last ≤ k + 1; omega, hj.i01⟩, .inl ⟨c2, rfl⟩⟩, fun _ => rfl⟩
      · have e62 : R.2.2 = 62 := c1
        rw [if_neg (show ¬ R.2.2 = 0 from fun h => by rw [e62] at h; cases h), if_pos e62]
        refine ⟨⟨⟨r3, u1, u2, r4, u3, u4, by have h4 : R.1.last = t.last := c3; show R.1.last ≤ k + 1; omega, u2.n⟩, .inr ⟨c2.dn, c2.wt, c2.nr, fun d' ha => ?_⟩⟩, fun _ => rfl⟩
        obtain ⟨i, F, last, now', h1, h2, h3⟩ := c2.nw d' ha
        exact ⟨i, F, last, now', by rcases h1 with rfl | rfl <;> simp, h2, by omega⟩
    · exact absurd hdn.nr hrd
  · have e : R = (t, m, 92) := by
      show jAppend t m body = _
      unfold jAppend
      rw [if_neg hrd]
      exact if_pos hmo
    rw [e]
    exact ⟨hm, fun h => by cases h⟩
/-- begun anew and opened: what stands there was sure, or perhaps -/
theorem anew_inv {now : List (List Int)} {maybe : List (List (List Int))} (h : HInv A B k t m now maybe) (hk : k < 10000) (ks : List Int) :
    let m' : Mp := { m with d := m.d.restart ks }
    m'.Ok ∧ BD m'.d ∧ m'.Sm (5000 * k) ∧ (jStand m' 0 1).bodies ∈ now :: maybe ∧ HInv A B k (jOpen m' 0 1) m' (jStand m' 0 1).bodies [] := by
  intro m'
  obtain ⟨hu, hs⟩ := h
  have hwt : Wt m.d := by rcases hs with ⟨h, _⟩ | h; exact h.wt; exact h.wt
  have ha := restart_anew hwt (kp_len hu.ok) ks
  have hok : m'.Ok := ⟨Dv.restart_ok hu.ok.d ks, by show ∀ x ∈ m.spans, _ ≤ (m.d.restart ks).cells.length; rw [ha.len]; exact hu.ok.s, hu.ok.n⟩
  have hbd : BD m'.d := restart_bd hu.bd ks
  have hsm : m'.Sm (5000 * k) := ⟨by show (m.d.restart ks).done.length ≤ _; rw [ha.w]; simp, hu.sm.2⟩
  have h2 : Two m' A B := two_of hu.wd.two rfl ha.len
  have hpos : ∃ i F last now', now' ∈ now :: maybe ∧ Jst m'.d A B i F last now' ∧ last ≤ k := by
    rcases hs with ⟨hup, rfl⟩ | hdn
    · obtain ⟨F, hj, _⟩ := hup.st
      have hkp : ∀ j, kp m'.d j = kp m.d j := fun j => ha.n j (by rw [hup.done]; simp [keys])
      exact ⟨t.now, F, t.last, now, by simp, jst_ers hj (bk_eq fun y _ => hkp _) (by rw [bk_eq (d' := m'.d) (d := m.d) fun y _ => hkp _]; exact ers_self), hu.lk⟩
    · exact hdn.nw _ ha
  obtain ⟨i, F, last, now', p1, p2, p3⟩ := hpos
  obtain ⟨o1, o2⟩ := jst_open h2 ha.s p2
  rw [o1, o2]
  refine ⟨hok, hbd, hsm, p1, ⟨⟨h2, fun j => by show wr (m.d.restart ks) j ≤ _; rw [ha.wr]; exact hu.wd.wear j, ha.m.trans hu.wd.most⟩, hok, ⟨p2.i01, by show last ≤ _; have := hu.lk; have := hu.jok.l; omega, by show (0 : Int) ≤ 0 ∧ (0 : Int) ≤ _; omega⟩, ⟨rfl, rfl⟩, hsm, hbd, p3, p2.i01⟩, .inl ⟨⟨ha.up, ha.w, ha.s, F, p2, fun h => by cases h⟩, rfl⟩⟩
end J
set_option linter.unusedVariables false
set_option linter.unusedSimpArgs false
set_option maxRecDepth 100000
namespace J
open Go Go.Ab
variable {H : Heap} {Γ Γ2 Δ : List (Nat × Blk)} {K : Value → Heap → Prop} {v w x : Value} {xs ys bs body : List Int} {j p : Nat} {e : Int} {ss tt bb : List (List Int)}
variable {L : Mloc} {m : Mp} {part pos : Int} {s : List Int} {pj A B : Nat} {t : Jn} {vals : List Value}
/-! the law's open and same -/
def m0 (A B : Nat) : Mp := ⟨Dv.new 60 10000, spansFrom 0 [A, B, 1], 0, []⟩
theorem bsInt3 (a b c : Int) (H : Heap) : (buildSliceC P 83 3).f [(0, int a), (1, int b), (2, .int .i64 c)] H = some (sl H.next 0 3 3, H.push [int a, int b, int c]) := by kernel_rfl
theorem open_spec (hO : St H Γ) (hA : 1 ≤ A) (hB : 1 ≤ B) (hs : A + B + 1 ≤ 60) (hk : ∀ H' L, St H' (Γ ++ MW L (m0 A B)) → Mown L (m0 A B) → K (ptr L.pm 0) H') : wCall P n_law09_open [agg [int A, int B]] H K := by
  apply law09_open_ok; unfold law09_open
  refine new_at hO ?_
  clear hO
  intro p1 H hO
  replace hO : St H (Γ ++ [(p1, ⟨[int A, int B], true⟩)]) := hO
  refine dNew_spec (n := 60) (w := 10000) (by omega) (by omega) hO ?_
  intro H2 pd pc hO2
  refine opP_i (idxPtr_ok (by omega) (by omega)) ?_
  refine load_at hO2 (Γ.length + 0) (at_l (at_r rfl)) (v := int A) rfl ?_
  refine ⟨same_at hO (Γ.length + 0) (at_r rfl) hO2 (Γ.length + 0) (at_l (at_r rfl)) rfl, ?_⟩
  refine opP_i (idxPtr_ok (by omega) (by omega)) ?_
  refine load_at hO2 (Γ.length + 0) (at_l (at_r rfl)) (v := int B) rfl ?_
  refine ⟨same_at hO (Γ.length + 0) (at_r rfl) hO2 (Γ.length + 0) (at_l (at_r rfl)) rfl, ?_⟩
  refine newSl_at hO2 (bsInt3 _ _ _ _) ?_
  clear hO hO2
  intro q H hO
  replace hO := hO.rot
  refine mNew_spec (sizes := [A, B, 1]) (jz := (Γ ++ [(p1, (⟨[int A, int B], true⟩ : Blk))]).length + 0) (Dv.new_ok (by omega) (by omega)) hO (at_r rfl) (by simp) (by simp) (fun n hn => ?_) ?_ (.inl ⟨rfl, rfl, rfl⟩) ?_
  · simp at hn; rcases hn with rfl | rfl | rfl <;> omega
  · show A + (B + (1 + 0)) ≤ (List.replicate 60 bCell0).length
    rw [List.length_replicate]; omega
  clear hO
  intro H pm ps hO hv
  refine opP_i ext0 ?_
  refine opP_i ext1 ?_
  refine hk H ⟨pm, pd, pc, ps, nilSl, nilSl⟩ ?_ hv
  exact hO.sub (List.Sublist.append (by rw [List.append_assoc]; exact List.sublist_append_left _ _) (List.Sublist.refl _))
theorem two_m0 (hs : A + B + 1 ≤ 60) : Two (m0 A B) A B := ⟨⟨[(A + B, 1)], by show (0, A) :: (0 + A, B) :: (0 + A + B, 1) :: [] = _; rw [Nat.zero_add]⟩, by show A + B ≤ (List.replicate 60 bCell0).length; rw [List.length_replicate]; omega⟩
theorem kp_m0 (j : Nat) : j < 60 → kp (m0 A B).d j = blank := fun h => by
  show ((List.replicate 60 bCell0).getD j zCell).kept = _
  rw [List.getD_eq_getElem?_getD, List.getElem?_replicate, if_pos h]; rfl
theorem sn_m0 (j : Nat) : sn (m0 A B).d j = kp (m0 A B).d j := by
  show ((List.replicate 60 bCell0).getD j zCell).seen = ((List.replicate 60 bCell0).getD j zCell).kept
  rw [List.getD_eq_getElem?_getD, List.getElem?_replicate]
  split <;> rfl
theorem wr_m0 (j : Nat) : wr (m0 A B).d j = 0 := by
  show ((List.replicate 60 bCell0).getD j zCell).wear = _
  rw [List.getD_eq_getElem?_getD, List.getElem?_replicate]
  split <;> rfl
theorem bk_m0 (hs : A + B + 1 ≤ 60) {b : Int} (hb : Bit b) : bk (m0 A B).d A B b = List.replicate (siz A B b) blank := by
  apply List.ext_getElem
  · rw [bk_len, List.length_replicate]
  · intro y g1 g2
    rw [bk_get, List.getElem_replicate]
    rw [bk_len] at g1
    apply kp_m0
    have := two_fit (two_m0 hs) hb g1
    show _ < 60
    have e : (m0 A B).d.cells.length = 60 := List.length_replicate
    omega
theorem m0_ok (hs : A + B + 1 ≤ 60) : (m0 A B).Ok := by
  have e : (m0 A B).d.cells.length = 60 := List.length_replicate
  refine ⟨Dv.new_ok (by omega) (by omega), fun x hx => ?_, by show 3 ≤ 16; omega⟩
  rw [e]
  have hx : x ∈ [(0, A), (0 + A, B), (0 + A + B, 1)] := hx
  simp at hx
  rcases hx with rfl | rfl | rfl <;> simp <;> omega
theorem m0_inv (hs : A + B + 1 ≤ 60) : HInv A B 0 (jOpen (m0 A B) 0 1) (m0 A B) [] [] ∧ (jStand (m0 A B) 0 1).bodies = [] := by
  have h2 := two_m0 hs
  have hj : Jst (m0 A B).d A B 1 0 0 [] := by
    have hst : fStands (bk (m0 A B).d A B 1) = row0 := by rw [bk_m0 hs (.inr rfl)]; exact stands_none fGet_blank
    have hbl : ∀ {n : Nat} {F : Nat}, HeadLt (List.replicate n blank) F := fun {n F} s r e g => by
      have : s ∈ List.replicate n blank := by rw [e]; exact List.mem_cons_self
      rw [List.eq_of_mem_replicate this] at g
      exact absurd g (by decide)
    refine ⟨.inr rfl, by rw [hst]; rfl, by rw [hst]; rfl, fun h => absurd rfl h, fun _ => ⟨rfl, rfl⟩, Nat.le_refl _, ?_, ?_⟩
    · have e : (1 : Int) - 1 = 0 := rfl
      rw [e, bk_m0 hs (.inl rfl)]; exact hbl.oth
    · rw [bk_m0 hs (.inr rfl)]; exact hbl
  obtain ⟨o1, o2⟩ := jst_open h2 sn_m0 hj
  rw [o1, o2]
  exact ⟨⟨⟨⟨h2, fun j => by rw [wr_m0]; omega, rfl⟩, m0_ok hs, ⟨.inr rfl, by show 0 ≤ _; omega, by show (0 : Int) ≤ 0 ∧ (0 : Int) ≤ _; omega⟩, ⟨rfl, rfl⟩, ⟨Nat.zero_le _, Nat.zero_le _⟩, new_bd, Nat.zero_le _, .inr rfl⟩, .inl ⟨⟨rfl, rfl, sn_m0, 0, hj, fun h => by cases h⟩, rfl⟩⟩, rfl⟩
/-- a slice of strings -/
def RdStr (Γ : List (Nat × Blk)) (v : Value) (l : List (List Int)) : Prop := (v = nilSl ∧ l = []) ∨ ∃ (p c j : Nat) (w : Unit), v = sl p 0 l.length c ∧ Γ[j]? = some (p, (⟨l.map strB, true⟩ : Blk))
/-- a slice of slices of bytes -/
def RdV (Γ : List (Nat × Blk)) (v : Value) (vs : List Value) : Prop := (v = nilSl ∧ vs = []) ∨ ∃ (p c j : Nat) (w : Bool), v = sl p 0 vs.length c ∧ Γ[j]? = some (p, (⟨vs, w⟩ : Blk))
theorem RdStr.app {l : List (List Int)} (h : RdStr Γ v l) : RdStr (Γ ++ Δ) v l := by
  rcases h with h | ⟨p, c, j, w, h1, h2⟩
  · exact .inl h
  · exact .inr ⟨p, c, j, w, h1, at_l h2⟩
theorem RdStr.app' {l : List (List Int)} (h : RdStr Δ v l) : RdStr (Γ ++ Δ) v l := by
  rcases h with h | ⟨p, c, j, w, h1, h2⟩
  · exact .inl h
  · exact .inr ⟨p, c, Γ.length + j, w, h1, at_r h2⟩
theorem RdV.app {l : List Value} (h : RdV Γ v l) : RdV (Γ ++ Δ) v l := by
  rcases h with h | ⟨p, c, j, w, h1, h2⟩
  · exact .inl h
  · exact .inr ⟨p, c, j, w, h1, at_l h2⟩
theorem RdV.app' {l : List Value} (h : RdV Δ v l) : RdV (Γ ++ Δ) v l := by
  rcases h with h | ⟨p, c, j, w, h1, h2⟩
  · exact .inl h
  · exact .inr ⟨p, c, Γ.length + j, w, h1, at_r h2⟩
theorem RdV.own {n : Nat} (h : Own 1 v n vals) : RdV (outB v vals) v vals := by
  rcases h with ⟨rfl, _, rfl⟩ | ⟨p, hv, hl⟩
  · exact .inl ⟨rfl, rfl⟩
  · have hl : vals.length = n := by rw [hl, Nat.mul_one]
    subst hl
    rcases hv with rfl | rfl
    · exact .inr ⟨p, _, 0, true, rfl, rfl⟩
    · exact .inr ⟨p, _, 0, true, rfl, rfl⟩
theorem RdV.lenSl (h : RdV Γ v vals) : Ab.lenSl v H = some (int vals.length, H) := by
  rcases h with ⟨rfl, rfl⟩ | ⟨p, c, j, w, rfl, _⟩ <;> rfl
theorem RdStr.lenSl (h : RdStr Γ v ss) : Ab.lenSl v H = some (int ss.length, H) := by
  rcases h with ⟨rfl, rfl⟩ | ⟨p, c, j, w, rfl, _⟩ <;> rfl
theorem RdV.at {K : Value → Heap → Prop} (hO : St H Γ) (h : RdV Γ v vals) {i : Nat} (hi : i < vals.length) (hk : K vals[i] H) : opP (idxSl 1 v (int i)) fun t => opW (loadOne t H) K := by
  rcases h with ⟨rfl, rfl⟩ | ⟨p, c, j, w, rfl, hj⟩
  · simp at hi
  · refine opP_i (idxSl_ok (by omega) (by omega)) ?_
    exact load_at hO j hj (by simp [hi]) hk
theorem RdStr.at {K : Value → Heap → Prop} (hO : St H Γ) (h : RdStr Γ v ss) {i : Nat} (hi : i < ss.length) (hk : K (strB ss[i]) H) : opP (idxSl 1 v (int i)) fun t => opW (loadOne t H) K := by
  rcases h with ⟨rfl, rfl⟩ | ⟨p, c, j, w, rfl, hj⟩
  · simp at hi
  · refine opP_i (idxSl_ok (by omega) (by omega)) ?_
    exact load_at hO j hj (by simp [hi]) hk
theorem same_spec (hO : St H Γ) (h1 : RdV Γ v vals) (h2 : RdBs Γ vals bb) (h3 : RdStr Γ w ss) (hb : ∀ b ∈ bb, By b) (hs : ∀ s ∈ ss, By s) (hl : ss.length ≤ 1000000) (hk : K (.bool (decide (bb = ss))) H) : wCall P n_law09_same [v, w] H K := by
  apply law09_same_ok; unfold law09_same
  have el := h2.1
  refine opW_i h1.lenSl ?_
  refine opW_i h3.lenSl ?_
  refine opP_i bin_neq ?_
  refine wIf_dec (fun h => ?_) (fun h => ?_)
  · rw [decide_eq_false (fun h4 : bb = ss => h (by rw [el, h4]))] at hk
    exact hk
  have e2 : bb.length = ss.length := by omega
  refine opW_i h1.lenSl ?_
  refine law09_same_L0_ind (fun k l' H' => H' = H ∧ ∃ y : Nat, y ≤ bb.length ∧ k = bb.length - y ∧ l' = [v, w, .bool false, int vals.length, int y] ∧ bb.take y = ss.take y) _ _ ?_ bb.length _ _ ⟨rfl, 0, by omega, rfl, rfl, rfl⟩
  rintro k l' H' ⟨rfl, y, hy, rfl, rfl, ht⟩
  unfold law09_same_L0
  try simp only [nth_zero, nth_succ]
  refine opP_i bin_lss ?_
  refine wIf_dec (fun h4 => ?_) (fun h4 => ?_)
  · have hyb : y < bb.length := by omega
    have hys : y < ss.length := by omega
    have hyv : y < vals.length := by omega
    refine h1.at hO hyv ?_
    refine opW_i ((h2.2 y hyv hyb).str hO) ?_
    refine h3.at hO hys ?_
    refine opP_i (str_neB _ _ (hb _ (List.getElem_mem hyb)) (hs _ (List.getElem_mem hys))) ?_
    refine wIf_dec (fun h5 => ?_) (fun h5 => ?_)
    · rw [decide_eq_false (fun h6 : bb = ss => h5 (by subst h6; rfl))] at hk
      exact hk
    · repeat (first | refine opP_i (by first | exact qa | exact qs | exact nilCheck_ptr | exact offPtr_ptr | exact bin_eql | exact bin_neq | exact bin_lss | exact bin_gtr | exact bin_leq | exact bin_geq | exact un_not | exact pick_true | exact pick_false | exact qy | exact qn | exact qi | exact qj) ?_ | refine opW_i (by first | exact lenSl_sl | exact min_w | exact max_w) ?_ | refine wy ?_ | refine wn ?_ | refine wIf_t rfl ?_ | refine wIf_f rfl ?_ | refine cond_yes rfl ?_ | refine cond_no rfl ?_)
      refine ⟨_, by omega, (by first | rfl | trivial), y + 1, by omega, rfl, rfl, ?_⟩
      rw [List.take_succ_eq_append_getElem hyb, List.take_succ_eq_append_getElem hys, ht, Decidable.not_not.1 h5]
  · have ey : y = bb.length := by omega
    subst ey
    rw [List.take_of_length_le (Nat.le_refl _), List.take_of_length_le (by omega)] at ht
    rw [decide_eq_true ht] at hk
    refine cond_yes rfl ?_
    exact hk
/-! what stands is bytes -/
theorem fGet_by (h : ∀ s ∈ ss, By s) : By (fGet ss).body := by
  unfold fGet
  match ss, h with
  | [], h => exact fun x hx => by cases hx
  | s :: r, h =>
    simp only
    split
    · exact fun x hx => by cases hx
    split
    · exact fun x hx => by cases hx
    · show By (fBody (s :: r) s)
      unfold fBody
      refine by_take (by_drop ?_ _) _
      intro x hx
      unfold plainS at hx
      obtain ⟨y, hy, hx⟩ := List.mem_flatMap.1 hx
      exact h y (List.mem_of_mem_take hy) x (List.mem_of_mem_take hx)
theorem go_by : ∀ (n want : Nat) (ss : List (List Int)) (out : Row), (∀ s ∈ ss, By s) → (∀ b ∈ out.bodies, By b) → ∀ b ∈ (standsGo n want ss out).bodies, By b
  | 0, _, _, out, _, ho => ho
  | n + 1, want, ss, out, hs, ho => by
    show ∀ b ∈ (if stStop want (fGet ss) out then out else standsGo n 2 (ss.drop (fGet ss).many) (stNext want (fGet ss) out)).bodies, By b
    split
    · exact ho
    · refine go_by n 2 _ _ (fun s hx => hs s (List.mem_of_mem_drop hx)) ?_
      intro b hb
      have hb : b ∈ out.bodies ++ [(fGet ss).body] := hb
      rcases List.mem_append.1 hb with hb | hb
      · exact ho b hb
      · have : b = (fGet ss).body := by simpa using hb
        rw [this]; exact fGet_by hs
theorem stand_by {a b : Int} (h : BD m.d) : ∀ x ∈ (jStand m a b).bodies, By x := by
  unfold jStand
  split
  · exact go_by _ _ _ _ (secs_by h) (fun b hb => by cases hb)
  · exact go_by _ _ _ _ (secs_by h) (fun b hb => by cases hb)
/-- a slice of bytes that came in -/
def ArgB (Γ : List (Nat × Blk)) (v : Value) (xs : List Int) : Prop := (v = nilSl ∧ xs = []) ∨ ∃ (p j : Nat), v = sl p 0 xs.length 2 ∧ Γ[j]? = some (p, (⟨by8 xs, false⟩ : Blk))
theorem ArgB.rd (h : ArgB Γ v xs) : RdB Γ v xs := by
  rcases h with h | ⟨p, j, h1, h2⟩
  · exact .inl h
  · exact .inr ⟨p, 0, 2, h1, .inl rfl, .inr ⟨j, _, h2, by rw [List.drop_zero]; exact List.take_of_length_le (by rw [by8_len]; omega)⟩⟩
theorem ArgB.app (h : ArgB Γ v xs) : ArgB (Γ ++ Δ) v xs := by
  rcases h with h | ⟨p, j, h1, h2⟩
  · exact .inl h
  · exact .inr ⟨p, j, h1, at_l h2⟩
end J
set_option linter.unusedVariables false
set_option linter.unusedSimpArgs false
set_option maxRecDepth 100000
namespace J
open Go Go.Ab
variable {H : Heap} {Γ Γ0 Γ2 Δ M A' B' C' : List (Nat × Blk)} {K : Value → Heap → Prop} {v w x : Value} {xs ys bs body : List Int} {j p : Nat} {e : Int} {ss tt bb : List (List Int)}
variable {L : Mloc} {m : Mp} {part pos : Int} {s : List Int} {pj A B k : Nat} {t : Jn} {vals cs : List Value}
/-! blocks moved in the list -/
theorem _root_.Go.Ab.St.in2 (h : St H ((((Γ0 ++ M) ++ A') ++ B') ++ C')) : St H ((((Γ0 ++ C') ++ M) ++ A') ++ B') := h.perm (by
  have e1 : ((((Γ0 ++ M) ++ A') ++ B') ++ C') = Γ0 ++ ((M ++ (A' ++ B')) ++ C') := by simp
  have e2 : ((((Γ0 ++ C') ++ M) ++ A') ++ B') = Γ0 ++ (C' ++ (M ++ (A' ++ B'))) := by simp
  rw [e1, e2]
  exact List.Perm.append_left _ List.perm_append_comm)
theorem _root_.Go.Ab.St.last (h : St H ((((Γ0 ++ M) ++ A') ++ B') ++ C')) : St H ((((Γ0 ++ A') ++ B') ++ M) ++ C') := h.perm (by
  have e1 : ((((Γ0 ++ M) ++ A') ++ B') ++ C') = Γ0 ++ ((M ++ (A' ++ B')) ++ C') := by simp
  have e2 : ((((Γ0 ++ A') ++ B') ++ M) ++ C') = Γ0 ++ (((A' ++ B') ++ M) ++ C') := by simp
  rw [e1, e2]
  exact List.Perm.append_left _ (List.Perm.append_right _ List.perm_append_comm))
theorem _root_.Go.Ab.St.back (h : St H (((Γ0 ++ A') ++ B') ++ M)) : St H (((Γ0 ++ M) ++ A') ++ B') := h.perm (by
  have e1 : (((Γ0 ++ A') ++ B') ++ M) = Γ0 ++ ((A' ++ B') ++ M) := by simp
  have e2 : (((Γ0 ++ M) ++ A') ++ B') = Γ0 ++ (M ++ (A' ++ B')) := by simp
  rw [e1, e2]
  exact List.Perm.append_left _ List.perm_append_comm)
/-! acts -/
structure Act where
  kind : Int
  n : Int
  bank : Int
  vb : Value
  body : List Int
  frame : Int
  seq : Int
def actC (a : Act) : List Value := [int a.kind, int a.n, int a.bank, a.vb, .int .u8 a.frame, .int .u64 a.seq]
structure Act.Rd (Γ : List (Nat × Blk)) (a : Act) : Prop where
  r : ArgB Γ a.vb a.body
  b : By a.body
  n : a.n ≤ 9223372036854775807
def RdActs (Γ : List (Nat × Blk)) (v : Value) (l : List Act) : Prop := ((v = nilSl ∧ l = []) ∨ ∃ (p c j : Nat) (w : Bool), v = sl p 0 l.length c ∧ Γ[j]? = some (p, (⟨l.flatMap actC, w⟩ : Blk))) ∧ ∀ a ∈ l, a.Rd Γ
theorem Act.Rd.app {a : Act} (h : a.Rd Γ) : a.Rd (Γ ++ Δ) := ⟨h.r.app, h.b, h.n⟩
theorem RdActs.app {l : List Act} (h : RdActs Γ v l) : RdActs (Γ ++ Δ) v l := by
  refine ⟨?_, fun a ha => (h.2 a ha).app⟩
  rcases h.1 with h | ⟨p, c, j, w, h1, h2⟩
  · exact .inl h
  · exact .inr ⟨p, c, j, w, h1, at_l h2⟩
theorem RdActs.lenSl {l : List Act} (h : RdActs Γ v l) : Ab.lenSl v H = some (int l.length, H) := by
  rcases h.1 with ⟨rfl, rfl⟩ | ⟨p, c, j, w, rfl, _⟩ <;> rfl
theorem RdActs.at {l : List Act} {K : Value → Heap → Prop} (hO : St H Γ) (h : RdActs Γ v l) {i : Nat} (hi : i < l.length) (hk : K (agg (actC l[i])) H) : opP (idxSl 6 v (int i)) fun t => opW (loadAgg 6 t H) K := by
  rcases h.1 with ⟨rfl, rfl⟩ | ⟨p, c, j, w, rfl, hj⟩
  · simp at hi
  · refine opP_i (idxSl_ok (by omega) (by omega)) ?_
    have hf := flat_at (f := actC) (l := l) (n := 6) (o := 0) (m := 6) (fun x _ => rfl) hi (by omega)
    rw [Nat.zero_add, Int.toNat_natCast]
    refine loadAgg_at hO j hj (show _ = actC l[i] from ?_) rfl (by omega) hk
    rw [Nat.add_zero] at hf
    rw [hf, List.drop_zero]
    exact List.take_of_length_le (Nat.le_refl _)
theorem ArgB.shape (h : ArgB Γ v xs) : ∃ a n c, v = .slice a n c := by
  rcases h with ⟨rfl, _⟩ | ⟨p, j, rfl, _⟩ <;> exact ⟨_, _, _, rfl⟩
theorem act_one {a : Act} (h : a.Rd Γ) : (actC a).all oneCell = true := by
  obtain ⟨x, n, c, e⟩ := ArgB.shape h.r
  unfold actC
  rw [e]; rfl
theorem zcAct : zc P 45 = [int 0, int 0, int 0, nilSl, .int .u8 0, .int .u64 0] := by kernel_rfl
theorem bsStr0 (H : Heap) : (buildSliceC P 42 0).f [] H = some (sl H.next 0 0 3, H.push []) := by kernel_rfl
theorem bsStr1 (l : List Int) (H : Heap) : (buildSliceC P 42 1).f [(0, strB l)] H = some (sl H.next 0 1 3, H.push [strB l]) := by kernel_rfl
theorem bsSs0 (H : Heap) : (buildSliceC P 43 0).f [] H = some (sl H.next 0 0 3, H.push []) := by kernel_rfl
theorem bsSs1 (a : Option Addr) (n c : Nat) (H : Heap) : (buildSliceC P 43 1).f [(0, .slice a n c)] H = some (sl H.next 0 1 3, H.push [.slice a n c]) := by kernel_rfl
/-- append: strings that can be read onto a slice of the call's own -/
theorem str_one (l : List (List Int)) : (l.map strB).all oneCell = true := by simp [oneCell, strB]
theorem str_simple (l : List (List Int)) : (l.map strB).all simpleB = true := by simp [simpleB, simple0, strB]
theorem app_str {n : Nat} (hO : St H (Γ ++ outB v cs)) (hv : Own 1 v n cs) (hx : RdStr Γ x ss) (hn : n ≤ 1000000) (hl : ss.length ≤ 1000000)
    (hk : ∀ v' H', St H' (Γ ++ outB v' (cs ++ ss.map strB)) → Own 1 v' (n + ss.length) (cs ++ ss.map strB) → K v' H') : opW (appendWith 1 16 v x H) K := by
  rcases hx with ⟨rfl, rfl⟩ | ⟨p, c, j, w, rfl, hj⟩
  · have e : appendWith 1 16 v nilSl H = some (v, H) := by
      rcases hv with ⟨rfl, _, _⟩ | ⟨q, rfl | rfl, _⟩ <;> rfl
    refine opW_i e ?_
    have h2 := hk v H
    simp only [List.map_nil, List.append_nil, List.length_nil, Nat.add_zero] at h2
    exact h2 hO hv
  · by_cases h0 : ss.length = 0
    · have : ss = [] := List.length_eq_zero_iff.1 h0
      subst this
      have e : appendWith 1 16 v (sl p 0 ([] : List (List Int)).length c) H = some (v, H) := by
        rcases hv with ⟨rfl, _, _⟩ | ⟨q, rfl | rfl, _⟩ <;> rfl
      refine opW_i e ?_
      have h2 := hk v H
      simp only [List.map_nil, List.append_nil, List.length_nil, Nat.add_zero] at h2
      exact h2 hO hv
    · refine append_own hO hv (by omega) (m := ss.length) rfl (new := ss.map strB) ?_ (by omega) (by omega) (by omega) (str_one _) (by simp) ?_
      · have hg := hO.at j (at_l hj) (.inl rfl)
        rw [elems_sl hg (by simp)]
        rw [List.drop_zero, List.take_of_length_le (by simp)]
      · intro p' H' h1 h2
        exact hk _ _ h1 h2
theorem mem_ne {p q : Nat} (h : p ≠ q) : Nat.beq p q = false := by
  cases hb : Nat.beq p q with
  | false => rfl
  | true => exact absurd (Nat.eq_of_beq_eq_true hb) h
theorem idsOf_sl {p o n c : Nat} : idsOf [sl p o n c] = [p] := rfl
theorem out1 {p o n c lo hi : Nat} (h : p < lo) : cOut (idsOf [sl p o n c]) lo hi := by
  show outside [p] lo hi = true
  simp [outside, allN_eq, blt_eq, h]
theorem outp {p o lo hi : Nat} (h : p < lo) : cOut (idsOf [ptr p o]) lo hi := by
  show outside [p] lo hi = true
  simp [outside, allN_eq, blt_eq, h]
theorem apartL {a b : List Nat} (h : ∀ x ∈ a, x ∉ b) : apartIds a b = true := by
  simp only [apartIds, allN_eq, List.all_eq_true]
  intro x hx
  have h2 := h x hx
  have : memN x b = false := by
    unfold memN
    rw [allN_eq, List.all_eq_true.2 (fun y hy => by rw [mem_ne (fun e : x = y => h2 (by rw [e]; exact hy))]; rfl)]; rfl
  rw [this]; rfl
end J
set_option linter.unusedVariables false
set_option linter.unusedSimpArgs false
set_option maxRecDepth 100000
namespace J
open Go Go.Ab
variable {H : Heap} {Γ Γ0 Γ2 Δ M : List (Nat × Blk)} {K : Value → Heap → Prop} {v w x : Value} {xs ys bs body : List Int} {j p : Nat} {e : Int} {ss tt bb : List (List Int)}
variable {L : Mloc} {m : Mp} {part pos : Int} {s : List Int} {pj A B k : Nat} {t : Jn} {vals cs : List Value}
theorem go_blen : ∀ (n want : Nat) (ss : List (List Int)) (out : Row), (standsGo n want ss out).bodies.length ≤ out.bodies.length + n
  | 0, _, _, out => Nat.le_refl _
  | n + 1, want, ss, out => by
    show (if stStop want (fGet ss) out then out else standsGo n 2 (ss.drop (fGet ss).many) (stNext want (fGet ss) out)).bodies.length ≤ _
    split
    · omega
    · have := go_blen n 2 (ss.drop (fGet ss).many) (stNext want (fGet ss) out)
      have e : (stNext want (fGet ss) out).bodies.length = out.bodies.length + 1 := by show (out.bodies ++ [_]).length = _; simp
      omega
theorem stand_len (h2 : Two m A B) (hA : A ≤ 30) (hB : B ≤ 30) : (jStand m 0 1).bodies.length ≤ 31 := by
  have h : ∀ b, Bit b → (fStands (m.secs b)).bodies.length ≤ 31 := fun b hb => by
    have := go_blen ((m.secs b).length + 1) 1 (m.secs b) row0
    rw [secs_len, two_size h2 hb] at this
    have e : siz A B b ≤ 30 := by rcases hb with rfl | rfl <;> assumption
    unfold fStands
    rw [secs_len, two_size h2 hb]
    have e0 : row0.bodies.length = 0 := rfl
    omega
  unfold jStand
  split
  · exact h 0 (.inl rfl)
  · exact h 1 (.inr rfl)
theorem limit_inv {n : Int} {now : List (List Int)} {maybe : List (List (List Int))} (h : HInv A B k t m now maybe) (hn : n ≤ 9223372036854775807) : HInv A B k t { m with d := m.d.limit n } now maybe := by
  obtain ⟨hu, hs⟩ := h
  have hd := hu.ok.d
  refine ⟨⟨⟨⟨hu.wd.two.sp, hu.wd.two.fit⟩, hu.wd.wear, hu.wd.most⟩, ⟨⟨hd.c, hd.n, hd.ds, hd.m, by show -1 ≤ max n (-1) ∧ max n (-1) ≤ _; omega⟩, hu.ok.s, hu.ok.n⟩, hu.jok, hu.jab, hu.sm, ⟨hu.bd.c, hu.bd.w⟩, hu.lk, hu.bit⟩, ?_⟩
  rcases hs with ⟨h, h0⟩ | h
  · refine .inl ⟨⟨h.up, h.done, h.sk, ?_⟩, h0⟩
    obtain ⟨F, hj, hr⟩ := h.st
    exact ⟨F, ⟨hj.i01, hj.bod, hj.lst, hj.fst, hj.nil, hj.le, hj.oth, hj.own⟩, hr⟩
  · exact .inr ⟨h.dn, ⟨h.wt.nd, h.wt.lt, h.wt.p, h.wt.n⟩, h.nr, fun d' ha => h.nw d' ⟨ha.len, ha.m, ha.w, ha.s, ha.n, ha.t, ha.wr, ha.up, ha.bud⟩⟩
/-- several slices of strings -/
def RdMay (Γ : List (Nat × Blk)) (vs : List Value) (ls : List (List (List Int))) : Prop := vs.length = ls.length ∧ ∀ i (h : i < vs.length) (h' : i < ls.length), RdStr Γ vs[i] ls[i]
theorem RdMay.app {ls : List (List (List Int))} (h : RdMay Γ vals ls) : RdMay (Γ ++ Δ) vals ls := ⟨h.1, fun i h1 h2 => (h.2 i h1 h2).app⟩
theorem RdMay.snoc {ls : List (List (List Int))} {l : List (List Int)} (h : RdMay Γ vals ls) (hv : RdStr Γ v l) : RdMay Γ (vals ++ [v]) (ls ++ [l]) := by
  refine ⟨by simp [h.1], fun i h1 h2 => ?_⟩
  have e := h.1
  by_cases hi : i < vals.length
  · rw [List.getElem_append_left hi, List.getElem_append_left (by omega)]; exact h.2 i hi (by omega)
  · have ei : i = vals.length := by simp at h1; omega
    subst ei
    have e2 : (ls ++ [l])[vals.length] = l := by
      rw [List.getElem_append_right (by omega)]; simp [e]
    rw [e2]
    simpa using hv
/-- what the law's loop holds -/
structure LS (A B y : Nat) (acts : List Act) (actsv : Value) (Γ0 : List (Nat × Blk)) (t : Jn) (m : Mp) (L : Mloc) (nowv mayv : Value) (mayvals : List Value) (now : List (List Int)) (maybe : List (List (List Int))) : Prop where
  own : Mown L m
  actr : RdActs Γ0 actsv acts
  nowr : RdStr Γ0 nowv now
  may : Own 1 mayv maybe.length mayvals
  mays : RdMay Γ0 mayvals maybe
  nb : ∀ b ∈ now, By b
  mb : ∀ l ∈ maybe, (∀ b ∈ l, By b) ∧ l.length ≤ 1000
  nl : now.length ≤ 40 + y
  ml : maybe.length ≤ y
  inv : HInv A B y t m now maybe
theorem LS.app {y : Nat} {acts : List Act} {actsv nowv mayv : Value} {mayvals : List Value} {now : List (List Int)} {maybe : List (List (List Int))} (h : LS A B y acts actsv Γ0 t m L nowv mayv mayvals now maybe) : LS A B y acts actsv (Γ0 ++ Δ) t m L nowv mayv mayvals now maybe :=
  ⟨h.own, h.actr.app, h.nowr.app, h.may, h.mays.app, h.nb, h.mb, h.nl, h.ml, h.inv⟩
theorem own_one {n : Nat} (h : Own 1 v n vals) : oneCell v = true := by
  rcases h with ⟨rfl, _, _⟩ | ⟨p, rfl | rfl, _⟩ <;> rfl
theorem str_sl (h : RdStr Γ v ss) : ∃ a n c, v = .slice a n c := by
  rcases h with ⟨rfl, _⟩ | ⟨p, c, j, w, rfl, _⟩ <;> exact ⟨_, _, _, rfl⟩
/-- the law's first inner loop: is what was found what perhaps was there? -/
theorem holds_L1 {a0 a1 a2 a3 a5 a6 a8 a9 a10 mayv : Value} {mayvals : List Value} {maybe : List (List (List Int))} {b0 : Bool} {n : Nat} {Qx : Nat → List Value → Heap → Prop} {Qr : List Value → Heap → Prop}
    (hO : St H Γ) (hv : RdV Γ a6 vals) (hr : RdBs Γ vals bb) (hm : RdV Γ mayv mayvals) (hs : RdMay Γ mayvals maybe) (hb : ∀ b ∈ bb, By b) (hl : ∀ l ∈ maybe, (∀ b ∈ l, By b) ∧ l.length ≤ 1000)
    (hk : ∀ H', St H' Γ → Qx 3 [a0, a1, a2, a3, mayv, a5, a6, .bool (b0 || decide (bb ∈ maybe)), a8, a9, a10] H') (hn : n = maybe.length) (hml : maybe.length ≤ 1000) :
    wLoop P true 162 law09_JournalHolds_P1 504403158265725808 [a0, a1, a2, a3, mayv, a5, a6, .bool b0, a8, a9, a10, mayv, int n, int 0] H Qx Qr := by
  subst hn
  have el := hs.1
  refine law09_JournalHolds_L1_ind (fun k l' H' => St H' Γ ∧ ∃ y : Nat, y ≤ maybe.length ∧ k = maybe.length - y ∧ l' = [a0, a1, a2, a3, mayv, a5, a6, .bool (b0 || decide (bb ∈ maybe.take y)), a8, a9, a10, mayv, int maybe.length, int y]) _ _ ?_ maybe.length _ _ ⟨hO, 0, by omega, rfl, by simp⟩
  clear hO
  rintro k l' H ⟨hO, y, hy, rfl, rfl⟩
  unfold law09_JournalHolds_L1
  try simp only [nth_zero, nth_succ]
  refine opP_i bin_lss ?_
  refine wIf_dec (fun h => ?_) (fun h => ?_)
  · have hyl : y < maybe.length := by omega
    have hyv : y < mayvals.length := by omega
    have hst := hs.2 y hyv hyl
    have hll := hl _ (List.getElem_mem hyl)
    have hmem : (decide (bb ∈ maybe.take (y + 1)) : Bool) = (decide (bb ∈ maybe.take y) || decide (bb = maybe[y])) := by
      rw [List.take_succ_eq_append_getElem hyl, ← Bool.decide_or]
      apply decide_eq_decide.2
      rw [List.mem_append, List.mem_singleton]
    refine hm.at hO hyv ?_
    refine wIf_intro (fun h2 => ?_) (fun h2 => ?_)
    · refine opP_i (by rw [h2]; rfl) ?_
      repeat (first | refine opP_i (by first | exact qa | exact qs | exact nilCheck_ptr | exact offPtr_ptr | exact bin_eql | exact bin_neq | exact bin_lss | exact bin_gtr | exact bin_leq | exact bin_geq | exact un_not | exact pick_true | exact pick_false | exact qy | exact qn | exact qi | exact qj) ?_ | refine opW_i (by first | exact lenSl_sl | exact min_w | exact max_w) ?_ | refine wy ?_ | refine wn ?_ | refine wIf_t rfl ?_ | refine wIf_f rfl ?_ | refine cond_yes rfl ?_ | refine cond_no rfl ?_)
      refine ⟨_, by omega, hO, y + 1, by omega, rfl, ?_⟩
      rw [hmem, ← Bool.or_assoc, h2]; rfl
    · refine same_spec hO hv hr hst hb hll.1 (by omega) ?_
      refine opP_i (by rw [h2]; rfl) ?_
      repeat (first | refine opP_i (by first | exact qa | exact qs | exact nilCheck_ptr | exact offPtr_ptr | exact bin_eql | exact bin_neq | exact bin_lss | exact bin_gtr | exact bin_leq | exact bin_geq | exact un_not | exact pick_true | exact pick_false | exact qy | exact qn | exact qi | exact qj) ?_ | refine opW_i (by first | exact lenSl_sl | exact min_w | exact max_w) ?_ | refine wy ?_ | refine wn ?_ | refine wIf_t rfl ?_ | refine wIf_f rfl ?_ | refine cond_yes rfl ?_ | refine cond_no rfl ?_)
      refine ⟨_, by omega, hO, y + 1, by omega, rfl, ?_⟩
      rw [hmem, ← Bool.or_assoc, h2]; rfl
  · have ey : y = maybe.length := by omega
    subst ey
    rw [List.take_of_length_le (Nat.le_refl _)]
    exact hk _ hO
/-- the second: what was found is what is there now -/
theorem holds_L2 {a0 a1 a2 a4 a5 a6 a7 a8 a9 nv : Value} {n : Nat} {Qx : Nat → List Value → Heap → Prop} {Qr : List Value → Heap → Prop}
    (hO : St H (Γ ++ outB nv [])) (hnv : Own 1 nv 0 []) (hv : RdV Γ a9 vals) (hr : RdBs Γ vals bb) (hl : bb.length ≤ 1000)
    (hk : ∀ H' nv', St H' (Γ ++ outB nv' (bb.map strB)) → Own 1 nv' bb.length (bb.map strB) → Qx 5 [a0, a1, a2, nv', a4, a5, a6, a7, a8] H') (hn : n = bb.length) :
    wLoop P true 162 law09_JournalHolds_P2 504403158265529200 [a0, a1, a2, nv, a4, a5, a6, a7, a8, a9, int n, int 0] H Qx Qr := by
  subst hn
  have el := hr.1
  refine law09_JournalHolds_L2_ind (fun k l' H' => ∃ (y : Nat) (nv : Value), y ≤ bb.length ∧ k = bb.length - y ∧ l' = [a0, a1, a2, nv, a4, a5, a6, a7, a8, a9, int bb.length, int y] ∧ St H' (Γ ++ outB nv ((bb.take y).map strB)) ∧ Own 1 nv y ((bb.take y).map strB)) _ _ ?_ bb.length _ _ ⟨0, nv, by omega, rfl, rfl, hO, hnv⟩
  clear hO hnv
  rintro k l' H ⟨y, nv, hy, rfl, rfl, hO, hnv⟩
  unfold law09_JournalHolds_L2
  try simp only [nth_zero, nth_succ]
  refine opP_i bin_lss ?_
  refine wIf_dec (fun h => ?_) (fun h => ?_)
  · have hyb : y < bb.length := by omega
    have hyv : y < vals.length := by omega
    refine hv.app.at hO hyv ?_
    refine opW_i ((hr.app.2 y hyv hyb).str hO) ?_
    refine newSl_at hO (bsStr1 _ _) ?_
    clear hO
    intro q H hO
    refine append_elem hO hnv rfl (by omega) (str_one [_]) (by omega) (by omega) ?_
    clear hO
    intro nv' H hO hnv'
    repeat (first | refine opP_i (by first | exact qa | exact qs | exact nilCheck_ptr | exact offPtr_ptr | exact bin_eql | exact bin_neq | exact bin_lss | exact bin_gtr | exact bin_leq | exact bin_geq | exact un_not | exact pick_true | exact pick_false | exact qy | exact qn | exact qi | exact qj) ?_ | refine opW_i (by first | exact lenSl_sl | exact min_w | exact max_w) ?_ | refine wy ?_ | refine wn ?_ | refine wIf_t rfl ?_ | refine wIf_f rfl ?_ | refine cond_yes rfl ?_ | refine cond_no rfl ?_)
    refine ⟨_, by omega, y + 1, nv', by omega, rfl, rfl, ?_, ?_⟩
    · rw [List.take_succ_eq_append_getElem hyb, List.map_append]; exact hO
    · rw [List.take_succ_eq_append_getElem hyb, List.map_append]; exact hnv'
  · have ey : y = bb.length := by omega
    subst ey
    rw [List.take_of_length_le (Nat.le_refl _)] at hO hnv
    exact hk _ _ hO hnv
end J
set_option linter.unusedVariables false
set_option linter.unusedSimpArgs false
set_option maxRecDepth 100000
namespace J
open Go Go.Ab
variable {H : Heap} {Γ Γ0 Γ2 Δ M G : List (Nat × Blk)} {K : Value → Heap → Prop} {v w x : Value} {xs ys bs body : List Int} {j p : Nat} {e : Int} {ss tt bb : List (List Int)}
variable {L : Mloc} {m : Mp} {part pos : Int} {s : List Int} {pj A B k : Nat} {t : Jn} {vals cs : List Value}
theorem mLimit_spec {n : Int} (hO : St H (Γ ++ MW L m)) (hk : ∀ H', St H' (Γ ++ MW L { m with d := m.d.limit n }) → K (.tuple [].toArray) H') : wCall P n_flash_Device_Budget [ptr L.pd 0, int n] H K := by
  refine dBudget_spec (MW.toD hO) ?_
  intro H' h
  exact hk H' (MW.ofD (L := L) (m := { m with d := m.d.limit n }) h)
theorem mRestart_spec {ks : List Int} (ok : m.d.Ok) (hd : m.d.done.length ≤ 1000000) (hO : St H (Γ ++ MW L m)) (hv : Mown L m) (hw : RdB Γ w ks) (hb : By ks)
    (hk : ∀ H', St H' (Γ ++ MW { L with vd := nilSl } { m with d := m.d.restart ks }) → Mown { L with vd := nilSl } { m with d := m.d.restart ks } → K (.tuple [].toArray) H') : wCall P n_flash_Device_Restart [ptr L.pd 0, w] H K := by
  refine dRestart_spec ok hd (MW.toD hO) hv.d hw.app.app hb ?_
  intro H' h
  exact hk H' (MW.ofD (L := { L with vd := nilSl }) (m := { m with d := m.d.restart ks }) h) ⟨.inl ⟨rfl, rfl, rfl⟩, hv.o⟩
theorem RdStr.own {l : List (List Int)} (h : Own 1 v l.length (l.map strB)) : RdStr (outB v (l.map strB)) v l := by
  rcases h with ⟨rfl, h, _⟩ | ⟨p, rfl | rfl, _⟩
  · have : l = [] := List.length_eq_zero_iff.1 h
    subst this
    exact .inl ⟨rfl, rfl⟩
  · exact .inr ⟨p, _, 0, (), rfl, rfl⟩
  · exact .inr ⟨p, _, 0, (), rfl, rfl⟩
theorem act_simple {a : Act} (h : a.Rd Γ) : (actC a).all simpleB = true := by
  have : simpleB a.vb = true := by
    rcases h.r with ⟨h, _⟩ | ⟨p, j, h, _⟩ <;> rw [h] <;> rfl
  simp [actC, this]
  exact ⟨rfl, rfl, rfl, rfl, rfl⟩
set_option maxHeartbeats 4000000 in
theorem holds_L0 {acts : List Act} {actsv : Value} {t0 : Jn} {nowv0 mayv0 : Value} {Qx : Nat → List Value → Heap → Prop} {Qr : List Value → Heap → Prop} {n : Nat}
    (hA : A ≤ 30) (hB : B ≤ 30) (hn : n = acts.length) (hn60 : n ≤ 60)
    (hO : St H (((G ++ outB mayv0 []) ++ JB pj L.pm t0) ++ MW L m)) (hls : LS A B 0 acts actsv G t0 m L nowv0 mayv0 [] [] [])
    (hx : ∀ H', Qx 0 [.bool false] H') (hr : ∀ H', Qr [.bool true] H') :
    wLoop P true 162 law09_JournalHolds_P0 16 [.bool false, ptr L.pm 0, ptr pj 0, nowv0, mayv0, actsv, int n, int 0] H Qx Qr := by
  subst hn
  refine law09_JournalHolds_L0_ind (fun k l' H' => ∃ (y : Nat) (Γ0 : List (Nat × Blk)) (t : Jn) (m : Mp) (L : Mloc) (pj : Nat) (nowv mayv : Value) (mayvals : List Value) (now : List (List Int)) (maybe : List (List (List Int))), y ≤ acts.length ∧ k = acts.length - y ∧ l' = [.bool false, ptr L.pm 0, ptr pj 0, nowv, mayv, actsv, int acts.length, int y] ∧ St H' (((Γ0 ++ outB mayv mayvals) ++ JB pj L.pm t) ++ MW L m) ∧ LS A B y acts actsv Γ0 t m L nowv mayv mayvals now maybe) _ _ ?_ acts.length _ _ ⟨0, G, t0, m, L, pj, nowv0, mayv0, [], [], [], by omega, by omega, rfl, hO, hls⟩
  clear hO hls
  rintro k l' H ⟨y, Γ0, t, m, L, pj, nowv, mayv, mayvals, now, maybe, hy, rfl, rfl, hO, ls⟩
  unfold law09_JournalHolds_L0
  try simp only [nth_zero, nth_succ]
  refine opP_i bin_lss ?_
  refine wIf_dec (fun h => ?_) (fun h => ?_)
  rotate_left
  · exact hx _
  have hyl : y < acts.length := by omega
  obtain ⟨a, ha⟩ : ∃ a, a = acts[y] := ⟨_, rfl⟩
  have hrd0 : a.Rd Γ0 := by rw [ha]; exact ls.actr.2 _ (List.getElem_mem hyl)
  refine RdActs.at (l := acts) hO ls.actr.app.app.app hyl ?_
  rw [← ha]
  have hya : (y : Int) + 1 = ((y + 1 : Nat) : Int) := by omega
  have hadd : (binC P .add 3 true).f (int y) (.int .i64 1) = some (int ((y + 1 : Nat) : Int)) := by rw [← hya]; exact bin_addi (by omega) (by omega)
  rw [zcAct]
  refine new_at hO ?_
  clear hO
  intro p11 H hO
  refine storeAll_at hO (_ + 0) (at_r rfl) rfl (show (actC a).length = 6 from rfl) (act_one hrd0) ?_
  clear hO
  intro H hO
  replace hO := hO.set_r
  replace hO := St.in2 hO
  have hp11 : ∀ {R1 R2 R3 : List (Nat × Blk)}, ((((Γ0 ++ [(p11, (⟨actC a, true⟩ : Blk))]) ++ R1) ++ R2) ++ R3)[Γ0.length + 0]? = some (p11, ⟨actC a, true⟩) := at_l (at_l (at_l (at_r rfl)))
  have hrd : a.Rd (Γ0 ++ [(p11, (⟨actC a, true⟩ : Blk))]) := hrd0.app
  have ls1 := ls.app (Δ := [(p11, (⟨actC a, true⟩ : Blk))])
  have hinv := ls.inv
  have use := hinv.1
  have hnl := ls.nl
  have hml := ls.ml
  -- the body's length
  refine opP_i offPtr_ptr ?_
  refine load_at hO (Γ0.length + 0) hp11 (v := a.vb) rfl ?_
  refine opW_i hrd.r.rd.lenSl ?_
  refine opP_i bin_gtr ?_
  refine wIf_dec (fun h4 => ?_) (fun h4 => ?_)
  · exact hr _
  refine opP_i offPtr_ptr ?_
  refine load_at hO (Γ0.length + 0) hp11 (v := int a.kind) rfl ?_
  refine opP_i bin_eql ?_
  refine wIf_dec (fun hk0 => ?_) (fun hk0 => ?_)
  · -- Begin
    refine opP_i offPtr_ptr ?_
    refine load_at hO (Γ0.length + 0) hp11 (v := a.vb) rfl ?_
    refine jBegin_spec (N := 5000 * y) use.ok use.jok use.sm (by omega) hrd.r.rd.app hrd.b (by omega) hO ls.own ?_
    clear hO
    intro H L1 he hO hown
    have hI := begin_inv hinv (by omega) hrd.b
    simp only at hI
    rw [he.m] at hO
    rw [← he.m] at hO
    generalize jBegin t m a.body = R at *
    obtain ⟨hI, hI0⟩ := hI
    refine opP_i bin_eql ?_
    refine wIf_dec (fun h0 => ?_) (fun h0 => ?_)
    · rw [if_pos h0, if_neg (by rw [h0]; decide)] at hI
      refine opP_i offPtr_ptr ?_
      refine load_at hO (Γ0.length + 0) hp11 (v := a.vb) rfl ?_
      refine opW_i (hrd.r.rd.app.app.app.str hO) ?_
      refine newSl_at hO (bsStr1 _ _) ?_
      clear hO
      intro q H hO
      replace hO := St.in2 hO
      refine opP_i hadd ?_
      rw [← he.m]
      refine ⟨_, by omega, y + 1, _, R.1, R.2.1, L1, pj, _, mayv, mayvals, [a.body], maybe, by omega, rfl, rfl, hO, ⟨hown, ls1.actr.app, .inr ⟨q, 3, _, (), rfl, at_r (k := 0) rfl⟩, ls1.may, ls1.mays.app, fun b hb => by rw [List.mem_singleton.1 hb]; exact hrd.b, ls1.mb, by simp; omega, by omega, hI⟩⟩
    · rw [if_neg h0] at hI
      refine opP_i bin_eql ?_
      refine wIf_dec (fun h1 => ?_) (fun h1 => ?_)
      · rw [if_pos h1] at hI
        refine opP_i offPtr_ptr ?_
        refine load_at hO (Γ0.length + 0) hp11 (v := a.vb) rfl ?_
        refine opW_i (hrd.r.rd.app.app.app.str hO) ?_
        refine newSl_at hO (bsStr1 _ _) ?_
        clear hO
        intro q H hO
        replace hO := St.in2 hO
        refine newSl_at hO (bsSs1 _ _ _ _) ?_
        clear hO
        intro q2 H hO
        replace hO := St.last hO
        refine append_elem hO ls1.may rfl (by omega) rfl (by omega) (by omega) ?_
        clear hO
        intro mayv' H hO hmay'
        replace hO := St.back hO
        refine opP_i hadd ?_
        rw [← he.m]
        refine ⟨_, by omega, y + 1, _, R.1, R.2.1, L1, pj, nowv, mayv', _, now, maybe ++ [[a.body]], by omega, rfl, rfl, hO, ⟨hown, ls1.actr.app, ls1.nowr.app, by rw [List.length_append]; exact hmay', ls1.mays.app.snoc (.inr ⟨q, 3, _, (), rfl, at_r (k := 0) rfl⟩), ls1.nb, fun l hl => ?_, by omega, by simp; omega, hI⟩⟩
        rcases List.mem_append.1 hl with hl | hl
        · exact ls1.mb l hl
        · rw [List.mem_singleton.1 hl]
          exact ⟨fun b hb => by rw [List.mem_singleton.1 hb]; exact hrd.b, by simp⟩
      · rw [if_neg h1] at hI
        refine opP_i hadd ?_
        rw [← he.m]
        exact ⟨_, by omega, y + 1, _, R.1, R.2.1, L1, pj, nowv, mayv, mayvals, now, maybe, by omega, rfl, rfl, hO, ⟨hown, ls1.actr, ls1.nowr, ls1.may, ls1.mays, ls1.nb, ls1.mb, by omega, by omega, hI⟩⟩
  refine opP_i bin_eql ?_
  refine wIf_dec (fun hk1 => ?_) (fun hk1 => ?_)
  · -- Append
    refine opP_i offPtr_ptr ?_
    refine load_at hO (Γ0.length + 0) hp11 (v := a.vb) rfl ?_
    refine jAppend_spec (N := 5000 * y) use.ok use.jok use.sm (by omega) hrd.r.rd.app hrd.b hO ls.own ?_
    clear hO
    intro H L1 he hO hown
    have hI := append_inv hinv (by omega) hrd.b
    simp only at hI
    generalize jAppend t m a.body = R at *
    obtain ⟨hI, hI0⟩ := hI
    have hlt1 := hO.lt (p11, ⟨actC a, true⟩) (List.mem_of_getElem? hp11)
    have hvb1 : ∀ (pb n c : Nat), a.vb = sl pb 0 n c → pb < H.next := fun pb n c e => by
      rcases hrd.r with ⟨h1, _⟩ | ⟨pb', jb, h1, h2⟩
      · rw [h1] at e; cases e
      · rw [h1] at e; cases e
        exact hO.lt (pb, _) (List.mem_of_getElem? (at_l (at_l (at_l h2))))
    refine newSl_at hO (bsStr0 _) ?_
    intro q0 H3 hO3
    replace hO3 := St.in2 hO3
    -- append onto the empty slice: its block stands last
    have hO4 : St H3 (((((Γ0 ++ [(p11, ⟨actC a, true⟩)]) ++ outB mayv mayvals) ++ JB pj L1.pm R.1) ++ MW L1 R.2.1) ++ outB (sl q0 0 0 3) []) := hO3.perm (by
      have e1 : ((((Γ0 ++ [(p11, (⟨actC a, true⟩ : Blk))]) ++ [(q0, (⟨[], true⟩ : Blk))]) ++ outB mayv mayvals) ++ JB pj L1.pm R.1) ++ MW L1 R.2.1 = (Γ0 ++ [(p11, (⟨actC a, true⟩ : Blk))]) ++ ([(q0, (⟨[], true⟩ : Blk))] ++ (outB mayv mayvals ++ (JB pj L1.pm R.1 ++ MW L1 R.2.1))) := by simp
      have e2 : ((((Γ0 ++ [(p11, (⟨actC a, true⟩ : Blk))]) ++ outB mayv mayvals) ++ JB pj L1.pm R.1) ++ MW L1 R.2.1) ++ outB (sl q0 0 0 3) [] = (Γ0 ++ [(p11, (⟨actC a, true⟩ : Blk))]) ++ ((outB mayv mayvals ++ (JB pj L1.pm R.1 ++ MW L1 R.2.1)) ++ [(q0, (⟨[], true⟩ : Blk))]) := by
        simp [outB]
      rw [e1, e2]
      exact List.Perm.append_left _ List.perm_append_comm)
    have hp3 := hO3.lt (p11, ⟨actC a, true⟩) (List.mem_of_getElem? (at_l (at_l (at_l (at_l (at_r (k := 0) rfl))))))
    have hvb3 : ∀ (pb n c : Nat), a.vb = sl pb 0 n c → pb < H3.next := fun pb n c e => by
      rcases hrd.r with ⟨h1, _⟩ | ⟨pb', jb, h1, h2⟩
      · rw [h1] at e; cases e
      · rw [h1] at e; cases e
        exact hO3.lt (pb, _) (List.mem_of_getElem? (at_l (at_l (at_l (at_l h2)))))
    have hq : q0 ≠ p11 := St.ne hO3 (i := _ + 0) (j := Γ0.length + 0) (at_l (at_l (at_l (at_r (k := 0) rfl)))) (at_l (at_l (at_l (at_l (at_r (k := 0) rfl))))) (by simp)
    have hqv : ∀ (pb n c : Nat), a.vb = sl pb 0 n c → q0 ≠ pb := fun pb n c e => by
      rcases hrd.r with ⟨h1, _⟩ | ⟨pb', jb, h1, h2⟩
      · rw [h1] at e; cases e
      · rw [h1] at e; cases e
        have := (List.getElem?_eq_some_iff.1 h2).1
        exact St.ne hO3 (i := _ + 0) (j := jb) (at_l (at_l (at_l (at_r (k := 0) rfl)))) (at_l (at_l (at_l (at_l h2)))) (by omega)
    have hnp : ∀ (pn n c : Nat), nowv = sl pn 0 n c → pn ≠ p11 ∧ ∀ (pb n' c' : Nat), a.vb = sl pb 0 n' c' → pn ≠ pb := fun pn n c e => by
      rcases ls.nowr with ⟨h1, _⟩ | ⟨pn', cn, jn, _, h1, h2⟩
      · rw [h1] at e; cases e
      · rw [h1] at e; cases e
        have := (List.getElem?_eq_some_iff.1 h2).1
        refine ⟨St.ne hO3 (i := jn) (j := Γ0.length + 0) (at_l (at_l (at_l (at_l (at_l h2))))) (at_l (at_l (at_l (at_l (at_r (k := 0) rfl))))) (by omega), fun pb n' c' e => ?_⟩
        rcases hrd0.r with ⟨h3, _⟩ | ⟨pb', jb, h3, h4⟩
        · rw [h3] at e; cases e
        · rw [h3] at e; cases e
          refine St.ne hO3 (i := jn) (j := jb) (at_l (at_l (at_l (at_l (at_l h2))))) (at_l (at_l (at_l (at_l (at_l h4))))) fun ej => ?_
          subst ej
          rw [h2] at h4
          injection h4 with h4
          injection h4 with h5 h6
          injection h6 with h7 h8
          cases h8
    have hids : idsOf [sl q0 0 0 3, nowv] = [q0] ∨ ∃ (pn n c : Nat), nowv = sl pn 0 n c ∧ idsOf [sl q0 0 0 3, nowv] = [q0, pn] := by
      rcases ls.nowr with ⟨h1, _⟩ | ⟨pn, cn, jn, _, h1, h2⟩
      · rw [h1]; exact .inl rfl
      · rw [h1]; exact .inr ⟨_, _, _, rfl, rfl⟩
    have hapart1 : cApart (idsOf [sl q0 0 0 3, nowv]) (idsOf [ptr p11 3]) := apartL fun z hz => by
      show z ∉ [p11]
      rw [List.mem_singleton]
      rcases hids with h1 | ⟨pn, n, c, h0, h1⟩
      · rw [h1] at hz; rw [List.mem_singleton.1 hz]; exact hq
      · rw [h1] at hz
        rcases List.mem_cons.1 hz with rfl | hz
        · exact hq
        · rw [List.mem_singleton.1 hz]; exact (hnp _ _ _ h0).1
    have hapart2 : cApart (idsOf [sl q0 0 0 3, nowv]) (idsOf [a.vb]) := apartL fun z hz => by
      rcases hrd.r with ⟨h1, _⟩ | ⟨pb', jb, h1, h2⟩
      · rw [h1]; show z ∉ []; simp
      · rw [h1]; show z ∉ [pb']
        rw [List.mem_singleton]
        rcases hids with h3 | ⟨pn, n, c, h0, h3⟩
        · rw [h3] at hz; rw [List.mem_singleton.1 hz]; exact hqv _ _ _ h1
        · rw [h3] at hz
          rcases List.mem_cons.1 hz with rfl | hz
          · exact hqv _ _ _ h1
          · rw [List.mem_singleton.1 hz]; exact (hnp _ _ _ h0).2 _ _ _ h1
    have hout : ∀ lo hi : Nat, (∀ (pb n c : Nat), a.vb = sl pb 0 n c → pb < lo) → cOut (idsOf [a.vb]) lo hi := fun lo hi hh => by
      rcases hrd.r with ⟨h1, _⟩ | ⟨pb', jb, h1, h2⟩
      · rw [h1]; rfl
      · rw [h1]; exact out1 (hh _ _ _ h1)
    refine app_str hO4 (.inr ⟨q0, .inr rfl, rfl⟩) ls1.nowr.app.app.app (by omega) (by omega) ?_
    clear hO3 hO4
    intro v1 H5 hO5 hv1
    rw [List.nil_append] at hO5
    rw [List.nil_append, Nat.zero_add] at hv1
    refine opP_i offPtr_ptr ?_
    refine load_at hO5 (Γ0.length + 0) (at_l (at_l (at_l (at_l (at_r rfl))))) (v := a.vb) rfl ?_
    refine ⟨hapart1, outp hp3, outp hlt1, ?_⟩
    refine opW_i (hrd.r.rd.app.app.app.app.str hO5) ?_
    refine ⟨hapart2, hout _ _ hvb3, hout _ _ hvb1, ?_⟩
    refine newSl_at hO5 (bsStr1 _ _) ?_
    clear hO5
    intro q1 H6 hO6
    refine append_elem hO6 hv1 rfl (by omega) (str_one [_]) (by omega) (by omega) ?_
    clear hO6
    intro v2 H7 hO7 hv2
    have em : now.map strB ++ [strB a.body] = (now ++ [a.body]).map strB := by simp
    rw [em] at hO7 hv2
    have hrs : RdStr (outB v2 ((now ++ [a.body]).map strB)) v2 (now ++ [a.body]) := RdStr.own (by rw [List.length_append]; exact hv2)
    have hv2s := str_sl hrs
    replace hO7 := St.in2 hO7
    have hnb : ∀ b ∈ now ++ [a.body], By b := fun b hb => by
      rcases List.mem_append.1 hb with hb | hb
      · exact ls1.nb b hb
      · rw [List.mem_singleton.1 hb]; exact hrd.b
    refine opP_i bin_eql ?_
    refine wIf_dec (fun h0 => ?_) (fun h0 => ?_)
    · rw [if_pos h0, if_neg (by rw [h0]; decide)] at hI
      refine opP_i hadd ?_
      rw [← he.m]
      exact ⟨_, by omega, y + 1, _, R.1, R.2.1, L1, pj, v2, mayv, mayvals, now ++ [a.body], maybe, by omega, rfl, rfl, hO7, ⟨hown, ls1.actr.app, hrs.app', ls1.may, ls1.mays.app, hnb, ls1.mb, by simp; omega, by omega, hI⟩⟩
    · rw [if_neg h0] at hI
      refine opP_i bin_eql ?_
      refine wIf_dec (fun h1 => ?_) (fun h1 => ?_)
      · rw [if_pos h1] at hI
        obtain ⟨ad, nn, cc, ev2⟩ := hv2s
        refine newSl_at hO7 (show (buildSliceC P 43 1).f [(0, v2)] H7 = some (sl H7.next 0 1 3, H7.push [v2]) by rw [ev2]; exact bsSs1 _ _ _ _) ?_
        clear hO7
        intro q2 H hO
        replace hO := St.last hO
        refine append_elem hO ls1.may rfl (by omega) (by rw [ev2]; rfl) (by omega) (by omega) ?_
        clear hO
        intro mayv' H hO hmay'
        replace hO := St.back hO
        refine opP_i hadd ?_
        rw [← he.m]
        refine ⟨_, by omega, y + 1, _, R.1, R.2.1, L1, pj, nowv, mayv', _, now, maybe ++ [now ++ [a.body]], by omega, rfl, rfl, hO, ⟨hown, ls1.actr.app, ls1.nowr.app, by rw [List.length_append]; exact hmay', ls1.mays.app.snoc hrs.app', ls1.nb, fun l hl => ?_, by omega, by simp; omega, hI⟩⟩
        rcases List.mem_append.1 hl with hl | hl
        · exact ls1.mb l hl
        · rw [List.mem_singleton.1 hl]
          exact ⟨hnb, by simp; omega⟩
      · rw [if_neg h1] at hI
        refine opP_i hadd ?_
        rw [← he.m]
        exact ⟨_, by omega, y + 1, _, R.1, R.2.1, L1, pj, nowv, mayv, mayvals, now, maybe, by omega, rfl, rfl, hO7, ⟨hown, ls1.actr.app, ls1.nowr.app, ls1.may, ls1.mays.app, ls1.nb, ls1.mb, by omega, by omega, hI⟩⟩
  refine opP_i bin_eql ?_
  refine wIf_dec (fun hk3 => ?_) (fun hk3 => ?_)
  · -- Budget
    refine mDevice_spec hO ?_
    refine opP_i offPtr_ptr ?_
    refine load_at hO (Γ0.length + 0) hp11 (v := int a.n) rfl ?_
    refine ⟨same_at hO (Γ0.length + 0) hp11 hO (Γ0.length + 0) hp11 (act_simple hrd0), ?_⟩
    refine mLimit_spec hO ?_
    clear hO
    intro H hO
    refine opP_i hadd ?_
    exact ⟨_, by omega, y + 1, _, t, _, L, pj, nowv, mayv, mayvals, now, maybe, by omega, rfl, rfl, hO, ⟨⟨ls.own.d, ls.own.o⟩, ls1.actr, ls1.nowr, ls1.may, ls1.mays, ls1.nb, ls1.mb, by omega, by omega, (limit_inv hinv hrd.n).mono (by omega)⟩⟩
  · -- Restart, and Open
    refine mDevice_spec hO ?_
    refine opP_i offPtr_ptr ?_
    refine load_at hO (Γ0.length + 0) hp11 (v := a.vb) rfl ?_
    refine ⟨same_at hO (Γ0.length + 0) hp11 hO (Γ0.length + 0) hp11 (act_simple hrd0), ?_⟩
    refine mRestart_spec use.ok.d (Nat.le_trans use.sm.1 (by omega)) hO ls.own hrd.r.rd.app.app hrd.b ?_
    clear hO
    intro H hO hown
    obtain ⟨nok, nbd, nsm, nmem, ninv⟩ := anew_inv hinv (by omega) a.body
    have two' : Two ({ m with d := m.d.restart a.body } : Mp) A B := ninv.1.wd.two
    have hsl := stand_len two' hA hB
    have hsb := stand_by (a := 0) (b := 1) nbd
    generalize ({ m with d := m.d.restart a.body } : Mp) = m' at *
    generalize hL : ({ L with vd := nilSl } : Mloc) = L' at *
    have hpm : L.pm = L'.pm := by rw [← hL]
    rw [hpm]
    refine jOpen_spec nok (secs_by nbd) (secs_by nbd) hO ?_
    clear hO
    intro H Δ vb vals pj' hO obs
    refine opP_i ext0 ?_
    refine opP_i ext1 ?_
    generalize jOpen m' 0 1 = t' at *
    generalize (jStand m' 0 1).bodies = bb at *
    -- Γ1 ++ M ++ JB ++ Δ ++ outB vb ++ JB' ++ MW
    have rdv : RdV ((((((Γ0 ++ [(p11, (⟨actC a, true⟩ : Blk))]) ++ outB mayv mayvals) ++ JB pj L.pm t) ++ Δ) ++ outB vb vals ++ JB pj' L'.pm t') ++ MW L' m') vb vals := (RdV.own obs.o).app'.app.app
    have rdb : RdBs ((((((Γ0 ++ [(p11, (⟨actC a, true⟩ : Blk))]) ++ outB mayv mayvals) ++ JB pj L.pm t) ++ Δ) ++ outB vb vals ++ JB pj' L'.pm t') ++ MW L' m') vals bb := (obs.r.app').app.app.app
    have rdn : RdStr ((((((Γ0 ++ [(p11, (⟨actC a, true⟩ : Blk))]) ++ outB mayv mayvals) ++ JB pj L.pm t) ++ Δ) ++ outB vb vals ++ JB pj' L'.pm t') ++ MW L' m') nowv now := ls1.nowr.app.app.app.app.app.app
    have rdm : RdV ((((((Γ0 ++ [(p11, (⟨actC a, true⟩ : Blk))]) ++ outB mayv mayvals) ++ JB pj L.pm t) ++ Δ) ++ outB vb vals ++ JB pj' L'.pm t') ++ MW L' m') mayv mayvals := (RdV.own ls.may).app'.app.app.app.app.app
    have rms : RdMay ((((((Γ0 ++ [(p11, (⟨actC a, true⟩ : Blk))]) ++ outB mayv mayvals) ++ JB pj L.pm t) ++ Δ) ++ outB vb vals ++ JB pj' L'.pm t') ++ MW L' m') mayvals maybe := ls1.mays.app.app.app.app.app.app
    refine same_spec hO rdv rdb rdn hsb ls.nb (by omega) ?_
    refine opW_i rdm.lenSl ?_
    refine holds_L1 hO rdv rdb rdm rms hsb ls.mb ?_ rms.1 (by omega)
    clear hO
    intro H hO
    refine cond_yes rfl ?_
    try simp only [nth_zero, nth_succ]
    have hfound : (decide (bb = now) || decide (bb ∈ maybe)) = true := by
      rw [← Bool.decide_or]
      exact decide_eq_true (List.mem_cons.1 nmem)
    rw [hfound]
    refine opP_i un_not ?_
    refine wIf_f rfl ?_
    refine newSl_at hO (bsStr0 _) ?_
    clear hO
    intro q H hO
    refine opW_i rdv.lenSl ?_
    refine holds_L2 (nv := sl q 0 0 3) hO (.inr ⟨q, .inr rfl, rfl⟩) rdv rdb (by omega) ?_ rdb.1
    clear hO
    intro H nv' hO hnv'
    refine cond_yes rfl ?_
    try simp only [nth_zero, nth_succ]
    refine opP_i hadd ?_
    have hO' : St H ((((((((Γ0 ++ [(p11, (⟨actC a, true⟩ : Blk))]) ++ outB mayv mayvals) ++ JB pj L.pm t) ++ Δ) ++ outB vb vals) ++ outB nv' (bb.map strB)) ++ JB pj' L'.pm t') ++ MW L' m') := St.back hO
    refine ⟨_, by omega, y + 1, ((((((Γ0 ++ [(p11, (⟨actC a, true⟩ : Blk))]) ++ outB mayv mayvals) ++ JB pj L.pm t) ++ Δ) ++ outB vb vals) ++ outB nv' (bb.map strB)), t', m', L', pj', nv', nilSl, [], bb, [], by omega, rfl, rfl, by show St H ((((_ ++ []) ++ _)) ++ _); rw [List.append_nil]; exact hO', ⟨hown, ls1.actr.app.app.app.app.app, (RdStr.own hnv').app', .inl ⟨rfl, rfl, rfl⟩, ⟨rfl, fun i h1 h2 => by simp at h1⟩, hsb, (fun l hl => by cases hl), by omega, by simp, ninv.mono (by omega)⟩⟩
end J
set_option linter.unusedVariables false
set_option linter.unusedSimpArgs false
set_option maxRecDepth 100000
namespace J
open Go Go.Ab
variable {H : Heap} {Γ Γ0 Γ2 Δ M G : List (Nat × Blk)} {K : Value → Heap → Prop} {v w x : Value} {xs ys bs body : List Int} {j p : Nat} {e : Int} {ss tt bb : List (List Int)}
variable {L : Mloc} {m : Mp} {part pos : Int} {s : List Int} {pj A B k : Nat} {t : Jn} {vals cs : List Value}
theorem holds_main {acts : List Act} {b0 b1 : Int} (hO : St H G) (hr : RdActs G w acts) : wCall P n_law09_JournalHolds [agg [int b0, int b1], w] H fun v _ => v = .bool true := by
  apply law09_JournalHolds_ok; unfold law09_JournalHolds
  refine new_at hO ?_
  clear hO
  intro p2 H hO
  replace hO : St H (G ++ [(p2, ⟨[int b0, int b1], true⟩)]) := hO
  refine law09_journalAlive_spec ?_
  refine opP_i un_not ?_
  refine wIf_f rfl ?_
  refine join_with (fun l' H' => l' = [w, ptr p2 0, .bool false] ∧ H' = H ∧ 2 ≤ b0 ∧ b0 ≤ 25 ∧ 2 ≤ b1 ∧ b1 ≤ 25 ∧ acts.length ≤ 60) ?_ ?_
  · refine opP_i (idxPtr_ok (by omega) (by omega)) ?_
    refine load_at hO (G.length + 0) (at_r rfl) (v := int b0) rfl ?_
    refine opP_i bin_lss ?_
    refine wIf_dec (fun h1 => ?_) (fun h1 => ?_)
    · rw [decide_eq_true h1]
      repeat (first | refine opP_i (by first | exact qa | exact qs | exact nilCheck_ptr | exact offPtr_ptr | exact bin_eql | exact bin_neq | exact bin_lss | exact bin_gtr | exact bin_leq | exact bin_geq | exact un_not | exact pick_true | exact pick_false | exact qy | exact qn | exact qi | exact qj) ?_ | refine opW_i (by first | exact lenSl_sl | exact min_w | exact max_w) ?_ | refine wy ?_ | refine wn ?_ | refine wIf_t rfl ?_ | refine wIf_f rfl ?_ | refine cond_yes rfl ?_ | refine cond_no rfl ?_)
      rfl
    rw [decide_eq_false h1]
    refine opP_i (idxPtr_ok (by omega) (by omega)) ?_
    refine load_at hO (G.length + 0) (at_r rfl) (v := int b1) rfl ?_
    refine opP_i bin_lss ?_
    refine opP_i pick_false ?_
    refine wIf_dec (fun h2 => ?_) (fun h2 => ?_)
    · rw [decide_eq_true h2]
      repeat (first | refine opP_i (by first | exact qa | exact qs | exact nilCheck_ptr | exact offPtr_ptr | exact bin_eql | exact bin_neq | exact bin_lss | exact bin_gtr | exact bin_leq | exact bin_geq | exact un_not | exact pick_true | exact pick_false | exact qy | exact qn | exact qi | exact qj) ?_ | refine opW_i (by first | exact lenSl_sl | exact min_w | exact max_w) ?_ | refine wy ?_ | refine wn ?_ | refine wIf_t rfl ?_ | refine wIf_f rfl ?_ | refine cond_yes rfl ?_ | refine cond_no rfl ?_)
      rfl
    rw [decide_eq_false h2]
    refine opP_i (idxPtr_ok (by omega) (by omega)) ?_
    refine load_at hO (G.length + 0) (at_r rfl) (v := int b0) rfl ?_
    refine opP_i bin_gtr ?_
    refine opP_i pick_false ?_
    refine wIf_dec (fun h3 => ?_) (fun h3 => ?_)
    · rw [decide_eq_true h3]
      repeat (first | refine opP_i (by first | exact qa | exact qs | exact nilCheck_ptr | exact offPtr_ptr | exact bin_eql | exact bin_neq | exact bin_lss | exact bin_gtr | exact bin_leq | exact bin_geq | exact un_not | exact pick_true | exact pick_false | exact qy | exact qn | exact qi | exact qj) ?_ | refine opW_i (by first | exact lenSl_sl | exact min_w | exact max_w) ?_ | refine wy ?_ | refine wn ?_ | refine wIf_t rfl ?_ | refine wIf_f rfl ?_ | refine cond_yes rfl ?_ | refine cond_no rfl ?_)
      rfl
    rw [decide_eq_false h3]
    refine opP_i (idxPtr_ok (by omega) (by omega)) ?_
    refine load_at hO (G.length + 0) (at_r rfl) (v := int b1) rfl ?_
    refine opP_i bin_gtr ?_
    refine opP_i pick_false ?_
    refine wIf_dec (fun h4 => ?_) (fun h4 => ?_)
    · rw [decide_eq_true h4]
      repeat (first | refine opP_i (by first | exact qa | exact qs | exact nilCheck_ptr | exact offPtr_ptr | exact bin_eql | exact bin_neq | exact bin_lss | exact bin_gtr | exact bin_leq | exact bin_geq | exact un_not | exact pick_true | exact pick_false | exact qy | exact qn | exact qi | exact qj) ?_ | refine opW_i (by first | exact lenSl_sl | exact min_w | exact max_w) ?_ | refine wy ?_ | refine wn ?_ | refine wIf_t rfl ?_ | refine wIf_f rfl ?_ | refine cond_yes rfl ?_ | refine cond_no rfl ?_)
      rfl
    rw [decide_eq_false h4]
    refine opW_i hr.lenSl ?_
    refine opP_i bin_gtr ?_
    refine opP_i pick_false ?_
    refine wIf_dec (fun h5 => ?_) (fun h5 => ?_)
    · rfl
    exact ⟨rfl, rfl, by omega, by omega, by omega, by omega, by omega⟩
  rintro l' H' ⟨rfl, rfl, h1, h2, h3, h4, h5⟩
  try simp only [nth_zero, nth_succ]
  obtain ⟨A, rfl⟩ : ∃ A : Nat, b0 = A := ⟨b0.toNat, by omega⟩
  obtain ⟨B, rfl⟩ : ∃ B : Nat, b1 = B := ⟨b1.toNat, by omega⟩
  refine loadAll_at hO (G.length + 0) (at_r rfl) rfl (by omega) ?_
  refine open_spec hO (by omega) (by omega) (by omega) ?_
  clear hO
  intro H L hO hown
  have hs : A + B + 1 ≤ 60 := by omega
  obtain ⟨hinv, hbod⟩ := m0_inv hs
  refine jOpen_spec (m0_ok hs) (secs_by new_bd) (secs_by new_bd) hO ?_
  clear hO
  intro H Δ vb vals pj hO obs
  refine opP_i ext0 ?_
  refine opP_i ext1 ?_
  refine newSl_at hO (bsStr0 _) ?_
  clear hO
  intro q1 H hO
  refine newSl_at hO (bsSs0 _) ?_
  clear hO
  intro q2 H hO
  refine opW_i hr.lenSl ?_
  have hO2 : St H (((((((G ++ [(p2, (⟨[int A, int B], true⟩ : Blk))]) ++ Δ) ++ outB vb vals) ++ [(q1, ⟨[], true⟩)]) ++ [(q2, ⟨[], true⟩)]) ++ JB pj L.pm (jOpen (m0 A B) 0 1)) ++ MW L (m0 A B)) := hO.perm (by
    generalize (((G ++ [(p2, (⟨[int A, int B], true⟩ : Blk))]) ++ Δ) ++ outB vb vals) = X
    generalize JB pj L.pm (jOpen (m0 A B) 0 1) = Y
    generalize MW L (m0 A B) = Z
    have e1 : ((((X ++ Y) ++ Z) ++ [(q1, (⟨[], true⟩ : Blk))]) ++ [(q2, (⟨[], true⟩ : Blk))]) = X ++ ((Y ++ Z) ++ [(q1, (⟨[], true⟩ : Blk)), (q2, (⟨[], true⟩ : Blk))]) := by simp
    have e2 : ((((X ++ [(q1, (⟨[], true⟩ : Blk))]) ++ [(q2, (⟨[], true⟩ : Blk))]) ++ Y) ++ Z) = X ++ ([(q1, (⟨[], true⟩ : Blk)), (q2, (⟨[], true⟩ : Blk))] ++ (Y ++ Z)) := by simp
    rw [e1, e2]
    exact List.Perm.append_left _ List.perm_append_comm)
  refine holds_L0 (A := A) (B := B) (mayv0 := sl q2 0 0 3) (by omega) (by omega) rfl h5 hO2 ⟨hown, hr.app.app.app.app, .inr ⟨q1, 3, _, (), rfl, at_r (k := 0) rfl⟩, .inr ⟨q2, .inr rfl, rfl⟩, ⟨rfl, fun i h1 h2 => absurd h1 (by simp)⟩, (fun b hb => by cases hb), (fun l hl => by cases hl), by simp, by simp, hinv⟩ ?_ ?_
  · intro H'
    exact cond_yes rfl (by first | rfl | trivial)
  · intro H'
    first | rfl | trivial
end J
set_option linter.unusedVariables false
set_option linter.unusedSimpArgs false
set_option maxRecDepth 100000
namespace J
open Go Go.Ab
/-! arguments -/
theorem shp_structH {P : Program} {t : TypeId} {fs : Array Field} (ht : P.underlying t = some (.struct fs)) {ts : List TypeId} {N : Nat} {c : List Value} {b : List (List Value)} (h : ShpL P (t :: ts) N c b) : ShpL P (fs.toList.map (·.type) ++ ts) N c b := by
  cases h with
  | struct hu h => rw [ht] at hu; cases hu; exact h
  | array hu _ => rw [ht] at hu; cases hu
  | int v hu _ _ => rw [ht] at hu; cases hu
  | bool v hu _ => rw [ht] at hu; cases hu
  | str v hu _ _ => rw [ht] at hu; cases hu
  | slNil hu _ => rw [ht] at hu; cases hu
  | sl len hu _ _ _ _ => rw [ht] at hu; cases hu
theorem shp_arrayH {P : Program} {t e : TypeId} {n : Nat} (ht : P.underlying t = some (.array n e)) {ts : List TypeId} {N : Nat} {c : List Value} {b : List (List Value)} (h : ShpL P (t :: ts) N c b) : ShpL P (List.replicate n e ++ ts) N c b := by
  cases h with
  | array hu h => rw [ht] at hu; cases hu; exact h
  | struct hu _ => rw [ht] at hu; cases hu
  | int v hu _ _ => rw [ht] at hu; cases hu
  | bool v hu _ => rw [ht] at hu; cases hu
  | str v hu _ _ => rw [ht] at hu; cases hu
  | slNil hu _ => rw [ht] at hu; cases hu
  | sl len hu _ _ _ _ => rw [ht] at hu; cases hu
theorem c8 : P.cellsOf 5 = 1 := by kernel_rfl
/-- a slice of bytes, at the head of values -/
theorem shp_bytes {ts : List TypeId} {N : Nat} {c : List Value} {b : List (List Value)} (h : ShpL P (32 :: ts) N c b) :
    ∃ v xs c' b1 b2, c = v :: c' ∧ b = b1 ++ b2 ∧ ArgB (argG N b1) v xs ∧ By xs ∧ ShpL P ts (N + b1.length) c' b2 := by
  rcases shp_sl u46 h with ⟨c', e1, h3⟩ | ⟨len, cells, c', bs, b', e1, eb1, hm, hl, h3, h4⟩
  · exact ⟨_, [], c', [], b, e1, rfl, .inl ⟨rfl, rfl⟩, fun x hx => (by cases hx), h3⟩
  · obtain ⟨hb, xs, rfl, rfl, hw⟩ := shp_intsL (k := .u8) Go.Proofs.Try.underlying5 _ _ _ _ h3
    subst hb
    subst eb1
    exact ⟨_, xs, c', [by8 xs], b', e1, rfl, .inr ⟨N, 0, rfl, rfl⟩, fun x hx => wf_u8 (hw x hx), h4⟩
theorem argB_l {Γ Δ : List (Nat × Blk)} {v : Value} {xs : List Int} (h : ArgB Δ v xs) : ArgB (Γ ++ Δ) v xs := by
  rcases h with h | ⟨p, j, h1, h2⟩
  · exact .inl h
  · exact .inr ⟨p, Γ.length + j, h1, at_r h2⟩
theorem shp_act {ts : List TypeId} {N : Nat} {c : List Value} {b : List (List Value)} (h : ShpL P (45 :: ts) N c b) :
    ∃ (a : Act) (c' : List Value) (b1 b2 : List (List Value)), c = actC a ++ c' ∧ b = b1 ++ b2 ∧ a.Rd (argG N b1) ∧ ShpL P ts (N + b1.length) c' b2 := by
  have h0 := shp_structH Go.Proofs.Try.underlying45 h
  have h0 : ShpL P (3 :: 3 :: 3 :: 32 :: 5 :: 36 :: ts) N c b := h0
  obtain ⟨x1, c1, rfl, _, h1⟩ := shp_int1 (k := .i64) Go.Proofs.Try.underlying3 h0
  obtain ⟨x2, c2, rfl, w2, h2⟩ := shp_int1 (k := .i64) Go.Proofs.Try.underlying3 h1
  obtain ⟨x3, c3, rfl, _, h3⟩ := shp_int1 (k := .i64) Go.Proofs.Try.underlying3 h2
  obtain ⟨v, xs, c4, b1, b2, rfl, eb, hv, hb, h4⟩ := shp_bytes h3
  obtain ⟨x5, c5, rfl, _, h5⟩ := shp_int1 (k := .u8) Go.Proofs.Try.underlying5 h4
  obtain ⟨x6, c6, rfl, _, h6⟩ := shp_int1 (k := .u64) Go.Proofs.Try.underlying36 h5
  exact ⟨⟨x1, x2, x3, v, xs, x5, x6⟩, c6, b1, b2, rfl, eb, ⟨hv, hb, (wf_i64 w2).2⟩, h6⟩
theorem argG_len (bs : List (List Value)) : ∀ N, (argG N bs).length = bs.length := by
  induction bs with
  | nil => intro N; rfl
  | cons b r ih => intro N; show (argG (N + 1) r).length + 1 = _; rw [ih]; rfl
theorem Act.Rd.app' {Γ Δ : List (Nat × Blk)} {a : Act} (h : a.Rd Δ) : a.Rd (Γ ++ Δ) := ⟨argB_l h.r, h.b, h.n⟩
theorem shp_acts : ∀ (n N : Nat) (c : List Value) (b : List (List Value)), ShpL P (List.replicate n 45) N c b → ∃ l : List Act, c = l.flatMap actC ∧ l.length = n ∧ ∀ a ∈ l, a.Rd (argG N b)
  | 0, N, c, b, h => by cases h; exact ⟨[], rfl, rfl, by simp⟩
  | n + 1, N, c, b, h => by
    have h : ShpL P (45 :: List.replicate n 45) N c b := h
    obtain ⟨a, c', b1, b2, e1, e2, hr, h2⟩ := shp_act h
    obtain ⟨l, e3, e4, hl⟩ := shp_acts n _ _ _ h2
    subst e1; subst e2; subst e3
    refine ⟨a :: l, rfl, by simp [e4], fun x hx => ?_⟩
    rw [argG_append]
    rcases List.mem_cons.1 hx with rfl | hx
    · exact hr.app
    · exact (hl x hx).app'
theorem arg_acts {ts : List TypeId} {N : Nat} {av : List Value} {b : List (List Value)} (h : ArgS P (41 :: ts) N av b) :
    ∃ v vs b1 b2 l, av = v :: vs ∧ b = b1 ++ b2 ∧ RdActs (argG N b1) v l ∧ ArgS P ts (N + b1.length) vs b2 := by
  have hu : P.underlying 41 = some (.slice 45) := by kernel_rfl
  have hc : P.cellsOf 45 = 6 := by kernel_rfl
  obtain ⟨v, vs, b1, b2, e, eb, h1, h2⟩ := arg_one h (by rw [hu]; simp) (by rw [hu]; simp)
  rcases shp_sl hu h1 with ⟨c', e1, h3⟩ | ⟨len, cells, c', bs, b', e1, eb1, hm, hl, h3, h4⟩
  · cases e1
    exact ⟨_, vs, b1, b2, [], e, eb, ⟨.inl ⟨rfl, rfl⟩, fun a ha => by cases ha⟩, h2⟩
  · cases e1
    obtain ⟨l, rfl, rfl, hr⟩ := shp_acts _ _ _ _ h3
    obtain ⟨_, rfl⟩ := shp_nil h4
    refine ⟨_, vs, b1, b2, l, e, eb, ⟨.inr ⟨N, _, 0, false, rfl, ?_⟩, fun a ha => ?_⟩, h2⟩
    · rw [eb1]; rfl
    · rw [eb1, List.append_nil]
      exact (hr a ha).app' (Γ := [(N, ⟨l.flatMap actC, false⟩)])
theorem shp_ints {P : Program} {e : TypeId} {k : IntKind} (he : P.underlying e = some (.int k)) : ∀ (n N : Nat) (c : List Value) (b : List (List Value)), ShpL P (List.replicate n e) N c b → b = [] ∧ ∃ xs : List Int, c = xs.map (Value.int k) ∧ xs.length = n
  | n, N, c, b, h => by
    obtain ⟨h1, xs, h2, h3, _⟩ := shp_intsL he n N c b h
    exact ⟨h1, xs, h2, h3⟩
theorem arg_pair {ts : List TypeId} {N : Nat} {av : List Value} {b : List (List Value)} (h : ArgS P (29 :: ts) N av b) : ∃ b0 b1 vs, av = agg [int b0, int b1] :: vs ∧ ArgS P ts N vs b := by
  obtain ⟨cs, vs, b1, b2, rfl, rfl, h1, h2⟩ := arg_agg h (.inr ⟨_, _, Go.Proofs.Try.underlying29⟩)
  have h3 := shp_arrayH Go.Proofs.Try.underlying29 h1
  have h3 : ShpL P (3 :: 3 :: []) N cs b1 := h3
  obtain ⟨x1, c1, rfl, _, h4⟩ := shp_int1 (k := .i64) Go.Proofs.Try.underlying3 h3
  obtain ⟨x2, c2, rfl, _, h5⟩ := shp_int1 (k := .i64) Go.Proofs.Try.underlying3 h4
  obtain ⟨rfl, rfl⟩ := shp_nil h5
  exact ⟨x1, x2, vs, rfl, by simpa using h2⟩
/-- slices of bytes that came in, in a slice -/
def RdArgs (Γ : List (Nat × Blk)) (v : Value) (vals : List Value) (bs : List (List Int)) : Prop := RdV Γ v vals ∧ vals.length = bs.length ∧ (∀ i (h : i < vals.length) (h' : i < bs.length), ArgB Γ vals[i] bs[i]) ∧ ∀ b ∈ bs, By b
theorem shp_bss : ∀ (n N : Nat) (c : List Value) (b : List (List Value)), ShpL P (List.replicate n 32) N c b → ∃ bs : List (List Int), c.length = bs.length ∧ bs.length = n ∧ (∀ i (h : i < c.length) (h' : i < bs.length), ArgB (argG N b) c[i] bs[i]) ∧ ∀ x ∈ bs, By x
  | 0, N, c, b, h => by cases h; exact ⟨[], rfl, rfl, by simp, by simp⟩
  | n + 1, N, c, b, h => by
    have h : ShpL P (32 :: List.replicate n 32) N c b := h
    obtain ⟨v, xs, c', b1, b2, e1, e2, hv, hb, h2⟩ := shp_bytes h
    obtain ⟨bs, e3, e4, h3, h4⟩ := shp_bss n _ _ _ h2
    subst e1; subst e2
    refine ⟨xs :: bs, by simp [e3], by simp [e4], fun i g1 g2 => ?_, fun x hx => ?_⟩
    · rw [argG_append]
      match i, g1, g2 with
      | 0, _, _ => exact hv.app
      | i + 1, g1, g2 => exact argB_l (h3 i (by simpa using g1) (by simpa using g2))
    · rcases List.mem_cons.1 hx with rfl | hx
      · exact hb
      · exact h4 x hx
theorem arg_bodies {ts : List TypeId} {N : Nat} {av : List Value} {b : List (List Value)} (h : ArgS P (24 :: ts) N av b) :
    ∃ v vs b1 b2 vals bs, av = v :: vs ∧ b = b1 ++ b2 ∧ RdArgs (argG N b1) v vals bs ∧ ArgS P ts (N + b1.length) vs b2 := by
  have hu : P.underlying 24 = some (.slice 32) := by kernel_rfl
  have hc : P.cellsOf 32 = 1 := by kernel_rfl
  obtain ⟨v, vs, b1, b2, e, eb, h1, h2⟩ := arg_one h (by rw [hu]; simp) (by rw [hu]; simp)
  rcases shp_sl hu h1 with ⟨c', e1, h3⟩ | ⟨len, cells, c', bs, b', e1, eb1, hm, hl, h3, h4⟩
  · cases e1
    exact ⟨_, vs, b1, b2, [], [], e, eb, ⟨.inl ⟨rfl, rfl⟩, rfl, fun i h => by simp at h, fun a ha => by cases ha⟩, h2⟩
  · cases e1
    obtain ⟨l, e5, rfl, hr, hb⟩ := shp_bss _ _ _ _ h3
    obtain ⟨_, rfl⟩ := shp_nil h4
    refine ⟨_, vs, b1, b2, cells, l, e, eb, ⟨.inr ⟨N, 2 * P.cellsOf 32, 0, false, by rw [e5], ?_⟩, e5, fun i g1 g2 => ?_, hb⟩, h2⟩
    · rw [eb1]; rfl
    · rw [eb1, List.append_nil]
      exact argB_l (Γ := [(N, ⟨cells, false⟩)]) (hr i g1 g2)
end J
set_option linter.unusedVariables false
set_option linter.unusedSimpArgs false
set_option maxRecDepth 100000
namespace J
open Go Go.Ab
variable {H : Heap} {Γ Γ0 Γ2 Δ M G : List (Nat × Blk)} {K : Value → Heap → Prop} {v w x : Value} {xs ys bs body : List Int} {j p : Nat} {e : Int} {ss tt bb : List (List Int)}
variable {L : Mloc} {m : Mp} {part pos : Int} {s : List Int} {pj A B k : Nat} {t : Jn} {vals cs : List Value}
theorem RdArgs.app (h : RdArgs Γ v vals bb) : RdArgs (Γ ++ Δ) v vals bb := ⟨h.1.app, h.2.1, fun i h1 h2 => (h.2.2.1 i h1 h2).app, h.2.2.2⟩
theorem use_ops {l : List Op} (h : Use A B k t m) (hl : l.length ≤ 5000 * k) : Use A B k t { m with ops := l } :=
  ⟨⟨⟨h.wd.two.sp, h.wd.two.fit⟩, h.wd.wear, h.wd.most⟩, ⟨h.ok.d, h.ok.s, h.ok.n⟩, h.jok, h.jab, ⟨h.sm.1, hl⟩, h.bd, h.lk, h.bit⟩
theorem up_ops {l : List Op} {now : List (List Int)} (h : Up t m A B now) : Up t { m with ops := l } A B now := ⟨h.up, h.done, h.sk, h.st⟩
theorem zcOp : zc P 39 = [int 0, int 0, int 0, int 0] := by kernel_rfl
/-- the inner loop: all that was done was done to one bank -/
theorem banks_L1 {a0 a1 a2 a4 a5 a6 a7 vo : Value} {l : List Op} {y n : Nat} {Qx : Nat → List Value → Heap → Prop} {Qr : List Value → Heap → Prop}
    (hO : St H (Γ ++ outB vo (opsC l))) (hv : Own 4 vo l.length (opsC l)) (hb : OpsB ((y % 2 : Nat) : Int) l) (hn : n = l.length) (hl : l.length ≤ 1000000)
    (hk : ∀ H' Δ, St H' ((Γ ++ outB vo (opsC l)) ++ Δ) → Qx 2 [a0, a1, a2, a4, a5, a6, a7] H') :
    wLoop P true 79 law09_JournalBanks_P1 117440668 [a0, a1, a2, int y, a4, a5, a6, a7, vo, int n, int 0] H Qx Qr := by
  subst hn
  refine law09_JournalBanks_L1_ind (fun k l' H' => ∃ (z : Nat) (Δ : List (Nat × Blk)), z ≤ l.length ∧ k = l.length - z ∧ l' = [a0, a1, a2, int y, a4, a5, a6, a7, vo, int l.length, int z] ∧ St H' ((Γ ++ outB vo (opsC l)) ++ Δ)) _ _ ?_ l.length _ _ ⟨0, [], by omega, rfl, rfl, by rw [List.append_nil]; exact hO⟩
  clear hO
  rintro k l' H ⟨z, Δ, hz, rfl, rfl, hO⟩
  unfold law09_JournalBanks_L1
  try simp only [nth_zero, nth_succ]
  refine opP_i bin_lss ?_
  refine wIf_dec (fun h => ?_) (fun h => ?_)
  · have hzl : z < l.length := by omega
    rcases hv with ⟨rfl, h0, _⟩ | ⟨p, hv, hlen⟩
    · omega
    have hvs : ∃ c, vo = sl p 0 l.length c := by rcases hv with rfl | rfl <;> exact ⟨_, rfl⟩
    obtain ⟨c, rfl⟩ := hvs
    have hj : ((Γ ++ outB (sl p 0 l.length c) (opsC l)) ++ Δ)[Γ.length + 0]? = some (p, ⟨opsC l, true⟩) := at_l (at_r rfl)
    refine opP_i (idxSl_ok (by omega) (by omega)) ?_
    have hf := flat_at (f := opC) (l := l) (n := 4) (o := 0) (m := 4) (fun x _ => rfl) hzl (by omega)
    rw [Nat.zero_add, Int.toNat_natCast]
    refine loadAgg_at hO (Γ.length + 0) hj (show _ = opC l[z] from ?_) rfl (by omega) ?_
    · rw [Nat.add_zero] at hf
      show ((opsC l).drop (z * 4)).take 4 = _
      unfold opsC
      rw [hf, List.drop_zero]
      exact List.take_of_length_le (Nat.le_refl _)
    rw [zcOp]
    refine new_at hO ?_
    clear hO
    intro q H hO
    refine storeAll_at hO (_ + 0) (at_r rfl) rfl (show (opC l[z]).length = 4 from rfl) rfl ?_
    clear hO
    intro H hO
    replace hO := hO.set_r
    refine opP_i offPtr_ptr ?_
    refine load_at hO (_ + 0) (at_r rfl) (v := int l[z].part) rfl ?_
    refine opP_i (bin_rem (by omega)) ?_
    refine opP_i bin_neq ?_
    have hp := hb _ (List.getElem_mem hzl)
    have e2 : ((y : Nat) : Int).tmod 2 = ((y % 2 : Nat) : Int) := rfl
    rw [hp, e2]
    refine wIf_no (by simp) ?_
    repeat (first | refine opP_i (by first | exact qa | exact qs | exact nilCheck_ptr | exact offPtr_ptr | exact bin_eql | exact bin_neq | exact bin_lss | exact bin_gtr | exact bin_leq | exact bin_geq | exact un_not | exact pick_true | exact pick_false | exact qy | exact qn | exact qi | exact qj) ?_ | refine opW_i (by first | exact lenSl_sl | exact min_w | exact max_w) ?_ | refine wy ?_ | refine wn ?_ | refine wIf_t rfl ?_ | refine wIf_f rfl ?_ | refine cond_yes rfl ?_ | refine cond_no rfl ?_)
    refine ⟨_, by omega, z + 1, Δ ++ [(q, ⟨opC l[z], true⟩)], by omega, rfl, rfl, ?_⟩
    rw [← List.append_assoc]; exact hO
  · exact hk _ _ hO
set_option maxHeartbeats 4000000 in
theorem banks_L0 {bbv : Value} {t0 : Jn} {Qx : Nat → List Value → Heap → Prop} {Qr : List Value → Heap → Prop} {n : Nat}
    (hn : n = bb.length) (hn20 : n ≤ 20) (hr : RdArgs G bbv vals bb)
    (hO : St H ((G ++ JB pj L.pm t0) ++ MW L m)) (hown : Mown L m) (hu : Use 20 20 0 t0 m) (hup : Up t0 m 20 20 []) (hbud : m.d.budget < 0) (hlast : t0.last = 0) (hnow : 1 - t0.now = 0)
    (hx : ∀ H', Qx 0 [.bool false] H') (hrr : ∀ H', Qr [.bool true] H') :
    wLoop P true 79 law09_JournalBanks_P0 4 [.bool false, ptr L.pm 0, ptr pj 0, bbv, int n, int 0] H Qx Qr := by
  subst hn
  refine law09_JournalBanks_L0_ind (fun k l' H' => ∃ (y : Nat) (Γ0 : List (Nat × Blk)) (t : Jn) (m : Mp) (L : Mloc) (now : List (List Int)), y ≤ bb.length ∧ k = bb.length - y ∧ l' = [.bool false, ptr L.pm 0, ptr pj 0, bbv, int bb.length, int y] ∧ St H' ((Γ0 ++ JB pj L.pm t) ++ MW L m) ∧ Mown L m ∧ RdArgs Γ0 bbv vals bb ∧ Use 20 20 y t m ∧ Up t m 20 20 now ∧ m.d.budget < 0 ∧ t.last = y ∧ 1 - t.now = ((y % 2 : Nat) : Int)) _ _ ?_ bb.length _ _ ⟨0, G, t0, m, L, [], by omega, by omega, rfl, hO, hown, hr, hu, hup, hbud, hlast, hnow⟩
  clear hO hown hu hup hbud hlast hnow hr
  rintro k l' H ⟨y, Γ0, t, m, L, now, hy, rfl, rfl, hO, hown, hr, hu, hup, hbud, hlast, hnow⟩
  unfold law09_JournalBanks_L0
  try simp only [nth_zero, nth_succ]
  refine opP_i bin_lss ?_
  refine wIf_dec (fun h => ?_) (fun h => ?_)
  rotate_left
  · exact hx _
  have hyl : y < bb.length := by omega
  have hyv : y < vals.length := by rw [hr.2.1]; exact hyl
  have hb := hr.2.2.2 _ (List.getElem_mem hyl)
  have hrd := hr.2.2.1 y hyv hyl
  refine hr.1.app.app.at hO hyv ?_
  refine opW_i hrd.rd.lenSl ?_
  refine opP_i bin_gtr ?_
  refine wIf_dec (fun h4 => ?_) (fun h4 => ?_)
  · exact hrr _
  generalize hbody : bb[y] = body at *
  refine mOps_spec hO hown ?_
  clear hO
  intro H hO hown1
  replace hO : St H (((Γ0 ++ outB L.vo (opsC m.ops)) ++ JB pj L.pm t) ++ MW { L with vo := nilSl } { m with ops := [] }) := hO.perm (by
    generalize MW { L with vo := nilSl } { m with ops := [] } = Z
    generalize JB pj L.pm t = X
    generalize outB L.vo (opsC m.ops) = Y
    refine List.Perm.append_right _ ?_
    rw [List.append_assoc, List.append_assoc]
    exact List.Perm.append_left _ List.perm_append_comm)
  have hu1 := use_ops (l := []) hu (by simp)
  have hup1 := up_ops (l := []) hup
  have hbud1 : ({ m with ops := [] } : Mp).d.budget < 0 := hbud
  have hops1 : ({ m with ops := [] } : Mp).ops = [] := rfl
  have hpm1 : ({ L with vo := nilSl } : Mloc).pm = L.pm := rfl
  generalize ({ m with ops := [] } : Mp) = m1 at *
  generalize hL1 : ({ L with vo := nilSl } : Mloc) = L1 at *
  rw [← hpm1] at hO ⊢
  have hsz0 : ∀ c, Bit c → m1.size c = 20 := fun c hc => by
    rw [two_size hu1.wd.two hc]; rcases hc with rfl | rfl <;> rfl
  have hfs : fSize body.length = (body.length + 79) / 63 := fSize_eq (by omega)
  have hroom : t.room m1 body.length := by
    rintro (h5 | h5)
    · apply h5
      have ha := hu1.jab
      refine ⟨by rw [hfs]; omega, ?_, ?_⟩
      · rw [ha.a, hsz0 0 (.inl rfl), hfs]; omega
      · rw [ha.b, hsz0 1 (.inr rfl), hfs]; omega
    · omega
  obtain ⟨⟨r1, r2, r3, r4, r5⟩, r6⟩ := begin_up (body := body) hu1.wd (by omega) hup1 hu1.jab hroom (by omega)
  have ok' := jBegin_ok (t := t) (body := body) hu1.ok
  have jok' := jBegin_jok (m := m1) (body := body) hu1.jok
  have sm' := jBegin_sm (t := t) (body := body) hu1.ok hu1.sm
  have bd' := begin_bd (t := t) hu1.bd hb
  have ops' := r2 (by rw [hops1]; intro o ho; cases ho)
  rcases r5 with ⟨c1, c2, c3, c4, c5⟩ | ⟨c1, c2, _⟩
  rotate_left
  · omega
  have hnow' := r6 c1
  have hbud' := c5 hbud1
  refine join_with (fun l' H' => ∃ (L2 : Mloc), L1.Eq L2 ∧ l' = [.bool false, ptr L1.pm 0, ptr pj 0, int y, vals[y], bbv, int bb.length, int y] ∧ St H' (((Γ0 ++ outB L.vo (opsC m.ops)) ++ JB pj L2.pm (jBegin t m1 body).1) ++ MW L2 (jBegin t m1 body).2.1) ∧ Mown L2 (jBegin t m1 body).2.1) ?_ ?_
  · refine jBegin_spec (N := 5000 * y) hu1.ok hu1.jok hu1.sm (by omega) hrd.rd.app hb (by omega) hO hown1 ?_
    clear hO
    intro H L2 he hO hown2
    rw [c1]
    refine opP_i bin_neq ?_
    refine wIf_no (by simp) ?_
    refine jLast_spec hO (j := (Γ0 ++ outB L.vo (opsC m.ops)).length + 0) (at_l (at_r rfl)) ?_
    refine opP_i (v := int ((y + 1 : Nat) : Int)) (by rw [show ((y + 1 : Nat) : Int) = (y : Int) + 1 by omega]; exact bin_addi (by omega) (by omega)) ?_
    refine opW_i (cvIU (by omega) (by omega)) ?_
    rw [Int.toNat_natCast, c4, hlast]
    refine opP_i bin_neq ?_
    refine opP_i (v := .bool false) (by rw [decide_eq_false (by simp)]; rw [decide_eq_false (by simp)]; rfl) ?_
    refine wIf_f rfl ?_
    exact ⟨L2, he, rfl, hO, hown2⟩
  clear hO
  rintro l' H ⟨L2, he, rfl, hO, hown2⟩
  try simp only [nth_zero, nth_succ]
  have hu2 : Use 20 20 (y + 1) (jBegin t m1 body).1 (jBegin t m1 body).2.1 := ⟨r3, ok', jok', r4, sm'.mono (by omega), bd', by rw [c4]; omega, by rw [hnow']; exact bit_other hu1.bit⟩
  have smo := hu2.sm.2
  generalize jBegin t m1 body = R at *
  rw [← he.m]
  refine mOps_spec hO hown2 ?_
  clear hO
  intro H hO hown3
  refine opW_i hown2.o.lenSl ?_
  have hO3 : St H ((((Γ0 ++ outB L.vo (opsC m.ops)) ++ JB pj L2.pm R.1) ++ MW { L2 with vo := nilSl } { R.2.1 with ops := [] }) ++ outB L2.vo (opsC R.2.1.ops)) := hO.rot
  clear hO
  refine banks_L1 hO3 hown2.o (by rw [← hnow]; exact ops') rfl (by omega) ?_
  clear hO3
  intro H Δ hO
  refine cond_yes rfl ?_
  try simp only [nth_zero, nth_succ]
  have hu3 := use_ops (l := []) hu2 (by simp)
  have hup3 := up_ops (l := []) c2
  have hbud3 : ({ R.2.1 with ops := [] } : Mp).d.budget < 0 := by show R.2.1.d.budget < 0; omega
  have hpm3 : ({ L2 with vo := nilSl } : Mloc).pm = L2.pm := rfl
  generalize ({ R.2.1 with ops := [] } : Mp) = m3 at *
  generalize ({ L2 with vo := nilSl } : Mloc) = L3 at *
  have hO4 : St H ((((Γ0 ++ outB L.vo (opsC m.ops)) ++ (outB L2.vo (opsC R.2.1.ops) ++ Δ)) ++ JB pj L2.pm R.1) ++ MW L3 m3) := St.back (by rw [List.append_assoc] at hO; exact hO)
  clear hO
  rw [← hpm3] at hO4 ⊢
  refine jOpen_spec hu3.ok (secs_by hu3.bd) (secs_by hu3.bd) hO4 ?_
  clear hO4
  intro H Δ2 vb2 vals2 pj2 hO obs
  obtain ⟨F, hj, _⟩ := hup3.st
  obtain ⟨o1, _⟩ := jst_open hu3.wd.two hup3.sk hj
  rw [o1] at obs
  refine opP_i ext0 ?_
  refine opP_i ext1 ?_
  refine opW_i obs.o.lenSl ?_
  refine opP_i bin_neq ?_
  refine wIf_no (by simp) ?_
  have e1 := obs.r.1
  have hv0 : 0 < vals2.length := by rw [e1]; simp
  have rdv : RdV (((((((Γ0 ++ outB L.vo (opsC m.ops)) ++ (outB L2.vo (opsC R.2.1.ops) ++ Δ)) ++ JB pj L3.pm R.1) ++ Δ2) ++ outB vb2 vals2) ++ JB pj2 L3.pm (jOpen m3 0 1)) ++ MW L3 m3) vb2 vals2 := (RdV.own obs.o).app'.app.app
  have rdb : RdBs (((((((Γ0 ++ outB L.vo (opsC m.ops)) ++ (outB L2.vo (opsC R.2.1.ops) ++ Δ)) ++ JB pj L3.pm R.1) ++ Δ2) ++ outB vb2 vals2) ++ JB pj2 L3.pm (jOpen m3 0 1)) ++ MW L3 m3) vals2 [body] := (obs.r.app').app.app.app
  refine rdv.at (i := 0) hO hv0 ?_
  refine opW_i ((rdb.2 0 hv0 (by simp)).str hO) ?_
  refine opW_i (hrd.rd.app.app.app.app.app.app.app.str hO) ?_
  refine opP_i (str_neB _ _ hb hb) ?_
  refine opP_i (v := .bool false) (by rw [decide_eq_false (by simp), decide_eq_false (by simp)]; rfl) ?_
  refine wIf_f rfl ?_
  refine opP_i (v := int ((y + 1 : Nat) : Int)) (by rw [show ((y + 1 : Nat) : Int) = (y : Int) + 1 by omega]; exact bin_addi (by omega) (by omega)) ?_
  have hbit := hu1.bit
  refine ⟨_, by omega, y + 1, (((((Γ0 ++ outB L.vo (opsC m.ops)) ++ (outB L2.vo (opsC R.2.1.ops) ++ Δ)) ++ Δ2) ++ outB vb2 vals2) ++ JB pj2 L3.pm (jOpen m3 0 1)), R.1, m3, L3, [body], by omega, rfl, rfl, ?_, hown3, hr.app.app.app.app.app, hu3, hup3, hbud3, by rw [c4]; omega, ?_⟩
  · refine hO.perm ?_
    generalize (Γ0 ++ outB L.vo (opsC m.ops)) ++ (outB L2.vo (opsC R.2.1.ops) ++ Δ) = X
    generalize JB pj L3.pm R.1 = Y
    generalize JB pj2 L3.pm (jOpen m3 0 1) = Z
    refine List.Perm.append_right _ ?_
    have e1 : (((X ++ Y) ++ Δ2) ++ outB vb2 vals2) ++ Z = X ++ (Y ++ (Δ2 ++ (outB vb2 vals2 ++ Z))) := by simp
    have e2 : (((X ++ Δ2) ++ outB vb2 vals2) ++ Z) ++ Y = X ++ ((Δ2 ++ (outB vb2 vals2 ++ Z)) ++ Y) := by simp
    rw [e1, e2]
    exact List.Perm.append_left _ List.perm_append_comm
  · rw [hnow']
    have : t.now = 0 ∨ t.now = 1 := hbit
    omega
theorem bPair2 : (buildC P 29).f [(0, (.int .i64 20)), (1, (.int .i64 20))] = some (agg [int ((20 : Nat) : Int), int ((20 : Nat) : Int)]) := by kernel_rfl
theorem banks_main (hO : St H G) (hr : RdArgs G w vals bb) : wCall P n_law09_JournalBanks [w] H fun v _ => v = .bool true := by
  apply law09_JournalBanks_ok; unfold law09_JournalBanks
  refine law09_journalAlive_spec ?_
  refine opP_i un_not ?_
  refine wIf_f rfl ?_
  have hl : lenSl w H = some (int bb.length, H) := by rw [← hr.2.1]; exact hr.1.lenSl
  refine opW_i hl ?_
  refine opP_i bin_gtr ?_
  refine wIf_dec (fun h => ?_) (fun h => ?_)
  · rfl
  refine opP_i bPair2 ?_
  refine open_spec hO (by omega) (by omega) (by omega) ?_
  clear hO
  intro H L hO hown
  have hs : 20 + 20 + 1 ≤ 60 := by omega
  obtain ⟨hinv, hbod⟩ := m0_inv hs
  refine jOpen_spec (m0_ok hs) (secs_by new_bd) (secs_by new_bd) hO ?_
  clear hO
  intro H Δ vb vals2 pj hO obs
  refine opP_i ext0 ?_
  refine opP_i ext1 ?_
  refine opW_i (show lenSl w H = some (int bb.length, H) by rw [← hr.2.1]; exact hr.1.lenSl) ?_
  obtain ⟨hu, hs2⟩ := hinv
  have hup : Up (jOpen (m0 20 20) 0 1) (m0 20 20) 20 20 [] := by
    rcases hs2 with ⟨h, _⟩ | h
    · exact h
    · exact absurd h.dn (by decide)
  obtain ⟨F, hj, _⟩ := hup.st
  have hnow := (hj.nil rfl).1
  have hlast : (jOpen (m0 20 20) 0 1).last = 0 := by have := hu.lk; omega
  refine banks_L0 (m := m0 20 20) rfl (by omega) hr.app.app hO hown hu hup (by decide) hlast (by omega) ?_ ?_
  · intro H'
    exact cond_yes rfl (by first | rfl | trivial)
  · intro H'
    first | rfl | trivial
end J
