/- texts of the proof, one behind the other -/
import Derived.Test.YtnemiikeflojaaaUE
set_option linter.unusedVariables false
set_option linter.unusedSimpArgs false
set_option maxRecDepth 100000
namespace J
open Go Go.Ab
variable {H : Heap} {Γ Γ0 Γ2 Δ G : List (Nat × Blk)} {K : Value → Heap → Prop} {v w x : Value} {xs ys bs : List Int} {j p : Nat} {e : Int} {d : Dv} {a : Int} {s : List Int}
structure Rl where
  pd : Nat
  pk : Nat
  pw : Nat
  vd : Value
  bud : Int
def kpC (l : List Cell) : List Value := l.flatMap fun c => by8 c.kept
def wrC (l : List Cell) : List Value := l.map fun c => int c.wear
def rdv (R : Rl) (d : Dv) : List Value := [sl R.pk 0 d.cells.length 129, sl R.pw 0 d.cells.length 3, int d.most, R.vd, .bool (decide (0 ≤ d.budget)), int R.bud, .bool d.down]
abbrev RW (R : Rl) (d : Dv) : List (Nat × Blk) := [(R.pd, ⟨rdv R d, true⟩), (R.pk, ⟨kpC d.cells, true⟩), (R.pw, ⟨wrC d.cells, true⟩)] ++ outB R.vd (chgC d.done)
def lastAt (l : List (Nat × List Int)) (i : Nat) (s : List Int) : List Int := l.foldl (fun s x => if x.1 = i then x.2 else s) s
theorem lastAt_snoc {l : List (Nat × List Int)} {i : Nat} {s : List Int} {x : Nat × List Int} : lastAt (l ++ [x]) i s = if x.1 = i then x.2 else lastAt l i s := by simp [lastAt]
structure Rok (R : Rl) (d : Dv) : Prop where
  o : OwnD R.vd d
  s : ∀ i, i < d.cells.length → (d.cells.getD i zCell).seen = lastAt d.done i (d.cells.getD i zCell).kept
  b : 0 ≤ d.budget → R.bud = d.budget
  w : ∀ c ∈ d.cells, c.wear ≤ d.most
variable {R : Rl}
theorem kp_at {d : Dv} {a : Int} (ok : ∀ c ∈ d.cells, c.Ok) (h : d.has a) : ((kpC d.cells).drop (a.toNat * 64)).take 64 = by8 (d.cell a).kept := by
  obtain ⟨hi, e⟩ := Dv.get h
  have := flat_at (f := fun c : Cell => by8 c.kept) (o := 0) (m := 64) (n := 64) (fun c hc => by rw [by8_len]; exact (ok c hc).k) hi (by omega)
  unfold kpC
  rw [Nat.add_zero] at this
  rw [this, List.drop_zero, e]
  exact List.take_of_length_le (by rw [by8_len, (Dv.cellOk ok h).k]; exact Nat.le_refl _)
theorem r6Blank_spec [lp : LpC] (hO : St H Γ) (hk : ∀ H', St H' Γ → K (sec blank) H') : wCall P n_ref06_Blank [] H K := by
  apply ref06_Blank_ok; unfold ref06_Blank
  rw [zcS]
  refine new_at hO ?_
  intro p0 H hO
  refine opP_i bS ?_
  refine new_at hO ?_
  intro p1 H hO
  rw [List.append_assoc] at hO
  refine storeAll_at hO (Γ.length + 1) (at_r rfl) (by rw [by8_len]; rfl) (by rw [by8_len]; rfl) (by8_one zeros) ?_
  clear hO
  intro H hO
  replace hO := hO.set_r
  refine ref06_Blank_L0_ind (fun k l' H' => ∃ y : Nat, y ≤ 64 ∧ k = 64 - y ∧ l' = [ptr p0 0, ptr p1 0, int y] ∧ St H' (Γ ++ [(p0, ⟨by8 zeros, true⟩), (p1, ⟨by8 (List.replicate y 255 ++ List.replicate (64 - y) 0), true⟩)])) _ _ ?_ 64 _ _ ⟨0, by omega, rfl, rfl, hO⟩
  clear hO
  rintro k l' H' ⟨y, hy, rfl, rfl, hO⟩
  unfold ref06_Blank_L0
  try simp only [nth_zero, nth_succ]
  repeat (first | refine oi ?_ | refine ow ?_ | refine wy ?_ | refine wn ?_ | refine wt ?_ | refine wf' ?_ | refine cy ?_ | refine cn ?_)
  refine wIf_dec (fun h => ?_) (fun h => ?_)
  · have hyl : y < 64 := by omega
    refine opP_i (idxPtr_ok (by omega) (by omega)) ?_
    refine store1_at hO (Γ.length + 1) (at_r rfl) rfl (by rw [by8_len]; simp; omega) (fill_set hyl) ?_
    intro H hO
    repeat (first | refine oi ?_ | refine ow ?_ | refine wy ?_ | refine wn ?_ | refine wt ?_ | refine wf' ?_ | refine cy ?_ | refine cn ?_)
    exact ⟨_, by omega, y + 1, by omega, rfl, rfl, hO.set_r⟩
  · have e : y = 64 := by omega
    subst e
    repeat (first | refine oi ?_ | refine ow ?_ | refine wy ?_ | refine wn ?_ | refine wt ?_ | refine wf' ?_ | refine cy ?_ | refine cn ?_)
    refine loadAll_at hO (Γ.length + 1) (at_r rfl) (by rw [by8_len]; rfl) (by omega) ?_
    refine storeAll_at hO (Γ.length + 0) (at_r rfl) (by rw [by8_len]; rfl) (by rw [by8_len]; rfl) (by8_one _) ?_
    intro H hO
    refine loadAll_at hO (Γ.length + 0) (by rw [Go.Ab.set_r]; exact at_r rfl) (by rw [by8_len]; rfl) (by omega) ?_
    exact hk _ (hO.set_r).left
theorem r6within_spec {n m : Nat} (h : n ≤ m) (hk : K (int n) H) : wCall P n_ref06_within [int n, int m] H K := by
  apply ref06_within_ok; unfold ref06_within
  refine opP_i bin_lss ?_
  refine wIf_dec (fun h => ?_) (fun h => ?_)
  · omega
  refine opP_i bin_gtr ?_
  refine wIf_dec (fun h => ?_) (fun h => ?_)
  · omega
  exact hk
theorem mkSecs : makeSliceC P 35 = ⟨makeSl 64 64 (by8 zeros)⟩ := by kernel_rfl
theorem mkInts : makeSliceC P 43 = ⟨makeSl 1 8 [int 0]⟩ := by kernel_rfl
theorem bRdev (n pk pw : Nat) (w : Int) : (buildC P 90).f [(0, sl pk 0 n 129), (1, sl pw 0 n 3), (2, int w)] = some (agg [sl pk 0 n 129, sl pw 0 n 3, int w, nilSl, .bool false, int 0, .bool false]) := by kernel_rfl
theorem zcStep : zc P 121 = int 0 :: by8 zeros := by kernel_rfl
theorem bStep' (a : Int) (g : Nat → Int) : (buildC P 121).f [(0, int a), (1, sec ((List.range 64).map g))] = some (agg (int a :: by8 ((List.range 64).map g))) := by kernel_rfl
theorem bStep (a : Int) (h : s.length = 64) : (buildC P 121).f [(0, int a), (1, sec s)] = some (agg (int a :: by8 s)) := by
  obtain ⟨g, rfl⟩ := sec_fn h
  exact bStep' a g
theorem bsStep' (a : Int) (g : Nat → Int) (H : Heap) : (buildSliceC P 88 1).f [(0, agg (int a :: by8 ((List.range 64).map g)))] H = some (sl H.next 0 1 131, H.push (int a :: by8 ((List.range 64).map g))) := by kernel_rfl
theorem bsStep (a : Int) (h : s.length = 64) (H : Heap) : (buildSliceC P 88 1).f [(0, agg (int a :: by8 s))] H = some (sl H.next 0 1 131, H.push (int a :: by8 s)) := by
  obtain ⟨g, rfl⟩ := sec_fn h
  exact bsStep' a g H
theorem r6in_spec (hO : St H Γ) (hj : Γ[j]? = some (R.pd, ⟨rdv R d, true⟩)) (hk : K (.bool (decide (d.has a))) H) : wCall P n_ref06_in [ptr R.pd 0, int a] H K := by
  apply ref06_in_ok; unfold ref06_in
  refine opP_i bin_geq ?_
  refine wIf_dec (fun h => ?_) (fun h => ?_)
  · refine opP_i nilCheck_ptr ?_
    refine opP_i offPtr_ptr ?_
    refine load_at hO j hj (v := sl R.pk 0 d.cells.length 129) rfl ?_
    refine opW_i lenSl_sl ?_
    refine opP_i bin_lss ?_
    refine opP_i (pick_yes h) ?_
    rw [decide_eq_decide.2 (show a < (d.cells.length : Int) ↔ d.has a from ⟨fun h2 => ⟨h, h2⟩, fun h2 => h2.2⟩)]
    exact hk
  · refine opP_i (pick_no h) ?_
    rw [decide_eq_false (show ¬ d.has a from fun h2 => h h2.1)] at hk
    exact hk
set_option maxHeartbeats 1000000 in
theorem r6Read_spec (ok : d.Ok) (hd : d.done.length ≤ 1000000) (hR : Rok R d) (hO : St H (Γ ++ RW R d)) (hk : ∀ H', St H' (Γ ++ RW R d) → K (.tuple [sec (d.read a).1, int (d.read a).2].toArray) H') : wCall P n_ref06_Read [ptr R.pd 0, int a] H K := by
  apply ref06_Read_ok; unfold ref06_Read
  rw [zcS]
  refine new_at hO ?_
  clear hO
  intro p4 H hO
  refine r6in_spec hO (at_l (at_r (k := 0) rfl)) ?_
  refine opP_i un_not ?_
  unfold Dv.read at hk
  by_cases h : d.has a
  rotate_left
  · rw [if_neg h] at hk
    rw [decide_eq_false h]
    refine wIf_t rfl ?_
    refine opP_i bS ?_
    refine storeAll_at hO ((Γ ++ RW R d).length + 0) (at_r rfl) (by rw [by8_len]; rfl) (by rw [by8_len]; rfl) (by8_one _) ?_
    clear hO
    intro H hO
    replace hO := hO.set_r
    refine loadAll_at hO ((Γ ++ RW R d).length + 0) (at_r rfl) (by rw [by8_len]; rfl) (by omega) ?_
    exact hk _ hO.left
  rw [if_pos h] at hk
  rw [decide_eq_true h]
  refine wIf_f rfl ?_
  have hds : ∀ x ∈ d.done, x.2.length = 64 := fun x hx => (ok.ds x hx).2
  have hkl := (Dv.cellOk ok.c h).k
  obtain ⟨hi, ei⟩ := Dv.get h
  refine opP_i nilCheck_ptr ?_
  refine opP_i offPtr_ptr ?_
  refine load_at hO (Γ.length + 0) (at_l (at_r rfl)) (v := sl R.pk 0 d.cells.length 129) rfl ?_
  refine opP_i (idxSl_ok h.1 h.2) ?_
  rw [Nat.zero_add]
  refine loadAgg_at hO (Γ.length + 1) (at_l (at_r rfl)) (kp_at ok.c h) (by rw [by8_len]; exact hkl) (by omega) ?_
  refine new_at hO ?_
  clear hO
  intro p6 H hO
  refine storeAll_at hO (_ + 0) (at_r rfl) (by rw [by8_len]; rfl) (by rw [by8_len]; exact hkl) (by8_one _) ?_
  clear hO
  intro H hO
  replace hO := hO.set_r
  refine opP_i nilCheck_ptr ?_
  refine opP_i offPtr_ptr ?_
  refine load_at hO (Γ.length + 0) (at_l (at_l (at_r rfl))) (v := R.vd) rfl ?_
  refine opW_i hR.o.lenSl ?_
  have hll : ∀ y, (lastAt (d.done.take y) a.toNat (d.cell a).kept).length = 64 := by
    intro y
    have hq : ∀ (l : List (Nat × List Int)) (s : List Int), s.length = 64 → (∀ x ∈ l, x.2.length = 64) → (lastAt l a.toNat s).length = 64 := by
      intro l
      induction l with
      | nil => exact fun s h _ => h
      | cons x l ih =>
        intro s hs hx
        refine ih _ ?_ (fun y hy => hx y (List.mem_cons_of_mem _ hy))
        show (if x.1 = a.toNat then x.2 else s).length = 64
        split
        · exact hx x List.mem_cons_self
        · exact hs
    exact hq _ _ hkl (fun x hx => hds x (List.mem_of_mem_take hx))
  refine ref06_Read_L0_ind (fun k l' H' => ∃ y : Nat, y ≤ d.done.length ∧ k = d.done.length - y ∧ l' = [int a, ptr p4 0, int 0, ptr p6 0, R.vd, int d.done.length, int y] ∧ St H' (((Γ ++ RW R d) ++ [(p4, ⟨by8 zeros, true⟩)]) ++ [(p6, ⟨by8 (lastAt (d.done.take y) a.toNat (d.cell a).kept), true⟩)])) _ _ ?_ d.done.length _ _ ⟨0, by omega, rfl, rfl, hO⟩
  clear hO
  rintro k l' H' ⟨y, hy, rfl, rfl, hO⟩
  unfold ref06_Read_L0
  try simp only [nth_zero, nth_succ]
  refine opP_i bin_lss ?_
  refine wIf_dec (fun h2 => ?_) (fun h2 => ?_)
  · have hyl : y < d.done.length := by omega
    obtain ⟨p, c, e1, e2⟩ := own_blk hR.o hyl
    have hx := ok.ds _ (List.getElem_mem hyl)
    have i2 : (RW R d)[3]? = some (p, ⟨chgC d.done, true⟩) := by
      show ([_, _, _] ++ outB R.vd (chgC d.done))[3]? = _
      rw [e2]; rfl
    rw [e1]
    refine opP_i (idxSl_ok (by omega) (by omega)) ?_
    rw [show 0 + ((y : Nat) : Int).toNat * 65 = y * 65 by rw [Int.toNat_natCast]; omega]
    rw [← e1]
    refine loadAgg_at hO (Γ.length + 3) (at_l (at_l (at_r i2))) (chg_at hds hyl) (chg_len hx.2) (by omega) ?_
    rw [zcStep]
    refine new_at hO ?_
    clear hO
    intro p8 H hO
    refine storeAll_at hO (_ + 0) (at_r rfl) (by simp [by8_len, zeros]) (chg_len hx.2) (chg_one _) ?_
    clear hO
    intro H hO
    replace hO := hO.set_r
    have es := lastAt_snoc (l := d.done.take y) (i := a.toNat) (s := (d.cell a).kept) (x := d.done[y])
    rw [← List.take_succ_eq_append_getElem hyl] at es
    refine opP_i offPtr_ptr ?_
    refine load_at hO (_ + 0) (at_r rfl) (v := int d.done[y].1) rfl ?_
    refine opP_i bin_eql ?_
    refine wIf_dec (fun h3 => ?_) (fun h3 => ?_)
    · rw [if_pos (by have := h.1; omega)] at es
      refine opP_i offPtr_ptr ?_
      refine loadAgg_at hO (_ + 0) (at_r rfl) (show ((chg d.done[y]).drop 1).take 64 = by8 d.done[y].2 from ?_) (by rw [by8_len]; exact hx.2) (by omega) ?_
      · show (by8 d.done[y].2).take 64 = _
        exact List.take_of_length_le (by rw [by8_len, hx.2]; exact Nat.le_refl _)
      refine storeAll_at hO (((Γ ++ RW R d) ++ [(p4, (⟨by8 zeros, true⟩ : Blk))]).length + 0) (at_l (at_r rfl)) (by rw [by8_len]; exact hll y) (by rw [by8_len]; exact hx.2) (by8_one _) ?_
      clear hO
      intro H hO
      rw [List.set_append_left _ _ (by simp), Go.Ab.set_r] at hO
      repeat (first | refine oi ?_ | refine ow ?_ | refine wy ?_ | refine wn ?_ | refine wt ?_ | refine wf' ?_ | refine cy ?_ | refine cn ?_)
      refine ⟨_, by omega, y + 1, by omega, rfl, rfl, ?_⟩
      rw [es]
      exact hO.left
    · rw [if_neg (by have := h.1; omega)] at es
      repeat (first | refine oi ?_ | refine ow ?_ | refine wy ?_ | refine wn ?_ | refine wt ?_ | refine wf' ?_ | refine cy ?_ | refine cn ?_)
      refine ⟨_, by omega, y + 1, by omega, rfl, rfl, ?_⟩
      rw [es]
      exact hO.left
  · have ey : y = d.done.length := by omega
    subst ey
    rw [List.take_length] at hO
    have hse : (d.cell a).seen = lastAt d.done a.toNat (d.cell a).kept := hR.s _ hi
    have hl2 := hll d.done.length
    rw [List.take_length] at hl2
    rw [← hse] at hO hl2
    refine cond_yes rfl ?_
    try simp only [nth_zero, nth_succ]
    refine loadAll_at hO (_ + 0) (at_r rfl) (by rw [by8_len]; exact hl2) (by omega) ?_
    refine storeAll_at hO ((Γ ++ RW R d).length + 0) (at_l (at_r rfl)) (by rw [by8_len]; rfl) (by rw [by8_len]; exact hl2) (by8_one _) ?_
    clear hO
    intro H hO
    rw [List.set_append_left _ _ (by simp), Go.Ab.set_r] at hO
    refine loadAll_at hO ((Γ ++ RW R d).length + 0) (at_l (at_r rfl)) (by rw [by8_len]; exact hl2) (by omega) ?_
    exact hk _ hO.left.left
end J
set_option linter.unusedVariables false
set_option linter.unusedSimpArgs false
set_option maxRecDepth 100000
namespace J
open Go Go.Ab
variable {H : Heap} {Γ Γ0 Γ2 Δ G : List (Nat × Blk)} {K : Value → Heap → Prop} {v w x : Value} {xs ys bs : List Int} {j p : Nat} {e : Int} {d : Dv} {a : Int} {s : List Int} {R : Rl}
theorem kpC_seen {d : Dv} {a : Int} {s : List Int} (h : d.has a) : kpC (d.cells.set a.toNat { d.cell a with seen := s }) = kpC d.cells := by
  obtain ⟨hi, e⟩ := Dv.get h
  have hm : ∀ (l : List Cell) (f : Cell → List Value), l.flatMap f = (l.map f).flatten := fun l f => List.flatMap_def ..
  unfold kpC
  rw [hm, hm, List.map_set]
  congr 1
  apply List.ext_getElem?
  intro i
  rw [List.getElem?_set]
  split
  · rename_i hh
    subst hh
    rw [if_pos (by simpa using hi), List.getElem?_map, List.getElem?_eq_getElem hi, e]; rfl
  · rfl
theorem wrC_seen {d : Dv} {a : Int} {s : List Int} (h : d.has a) : wrC (d.cells.set a.toNat { d.cell a with seen := s }) = wrC d.cells := by
  obtain ⟨hi, e⟩ := Dv.get h
  unfold wrC
  rw [List.map_set]
  apply List.ext_getElem?
  intro i
  rw [List.getElem?_set]
  split
  · rename_i hh
    subst hh
    rw [if_pos (by simpa using hi), List.getElem?_map, List.getElem?_eq_getElem hi, e]; rfl
  · rfl
def Rl.spent (R : Rl) (d : Dv) : Rl := { R with bud := if 0 < d.budget then d.budget - 1 else R.bud }
theorem Rok.step (h : Rok R d) (hd : d.down = false) : Rok (R.spent d) d.step := by
  refine ⟨h.o, h.s, ?_, h.w⟩
  intro hb
  have h1 := h.b
  unfold Dv.step at hb ⊢
  unfold Rl.spent
  simp only [hd, Bool.false_eq_true, false_or] at hb ⊢
  by_cases h0 : 0 < d.budget
  · rw [if_pos h0, if_pos ⟨by omega, h0⟩]
  · rw [if_neg h0, if_neg (fun h => h0 h.2)]
    rw [if_neg (fun h => h0 h.2)] at hb
    exact h1 hb
theorem r6spend_spec (hdn : d.down = false) (hb : -1 ≤ d.budget ∧ d.budget ≤ 9223372036854775807) (hR : Rok R d) (hO : St H (Γ ++ RW R d)) (hk : ∀ H', St H' (Γ ++ RW (R.spent d) d.step) → K (.bool !d.step.down) H') : wCall P n_ref06_spend [ptr R.pd 0] H K := by
  apply ref06_spend_ok; unfold ref06_spend
  have hbud := hR.b
  obtain ⟨cells, done, most, budget, down⟩ := d
  subst hdn
  simp only at hbud hb
  refine join_with (fun l' H' => l' = [ptr R.pd 0, .bool (decide (budget = 0))] ∧ H' = H) ?_ ?_
  · refine opP_i nilCheck_ptr ?_
    refine opP_i offPtr_ptr ?_
    refine load_at hO (Γ.length + 0) (at_r rfl) (v := .bool (decide (0 ≤ budget))) rfl ?_
    refine wIf_dec (fun h => ?_) (fun h => ?_)
    · refine opP_i nilCheck_ptr ?_
      refine opP_i offPtr_ptr ?_
      refine load_at hO (Γ.length + 0) (at_r rfl) (v := int R.bud) rfl ?_
      refine opP_i bin_eql ?_
      refine opP_i (pick_yes h) ?_
      rw [hbud h]
      exact ⟨rfl, rfl⟩
    · refine opP_i (pick_no h) ?_
      rw [decide_eq_false (show ¬ budget = 0 by omega)]
      exact ⟨rfl, rfl⟩
  rintro l' H' ⟨rfl, rfl⟩
  try simp only [nth_zero, nth_succ]
  refine wIf_dec (fun h => ?_) (fun h => ?_)
  · subst h
    refine opP_i nilCheck_ptr ?_
    refine opP_i offPtr_ptr ?_
    refine store1_at hO (Γ.length + 0) (at_r rfl) rfl (show 6 < 7 by omega) rfl ?_
    clear hO
    intro H hO
    replace hO := hO.set_r
    exact hk H hO
  · refine opP_i nilCheck_ptr ?_
    refine opP_i offPtr_ptr ?_
    refine load_at hO (Γ.length + 0) (at_r rfl) (v := .bool (decide (0 ≤ budget))) rfl ?_
    have e1 : (Dv.step ⟨cells, done, most, budget, false⟩) = ⟨cells, done, most, if 0 < budget then budget - 1 else budget, false⟩ := by
      unfold Dv.step
      simp only [Bool.false_or, Bool.false_eq_true, false_or]
      rw [decide_eq_false h]
      by_cases h0 : 0 < budget
      · rw [if_pos h0, if_pos ⟨h, h0⟩]
      · rw [if_neg h0, if_neg (fun h => h0 h.2)]
    rw [e1] at hk
    refine wIf_dec (fun h2 => ?_) (fun h2 => ?_)
    · have h0 : 0 < budget := by omega
      rw [if_pos h0] at hk
      refine opP_i nilCheck_ptr ?_
      refine opP_i offPtr_ptr ?_
      refine load_at hO (Γ.length + 0) (at_r rfl) (v := int R.bud) rfl ?_
      rw [hbud h2]
      refine opP_i (bin_subi (by omega) (by omega)) ?_
      refine opP_i nilCheck_ptr ?_
      refine opP_i offPtr_ptr ?_
      refine store1_at hO (Γ.length + 0) (at_r rfl) rfl (show 5 < 7 by omega) rfl ?_
      clear hO
      intro H hO
      replace hO := hO.set_r
      have := hk H
      refine this ?_
      have e2 : rdv (R.spent ⟨cells, done, most, budget, false⟩) ⟨cells, done, most, budget - 1, false⟩ = [sl R.pk 0 cells.length 129, sl R.pw 0 cells.length 3, int most, R.vd, .bool (decide (0 ≤ budget)), int (budget - 1), .bool false] := by
        unfold rdv Rl.spent
        simp only
        rw [if_pos h0, decide_eq_decide.2 (show (0 : Int) ≤ budget - 1 ↔ 0 ≤ budget by omega)]
      show St H (Γ ++ ([(R.pd, ⟨rdv (R.spent ⟨cells, done, most, budget, false⟩) ⟨cells, done, most, budget - 1, false⟩, true⟩), _, _] ++ _))
      rw [e2]
      exact hO
    · have h0 : ¬ 0 < budget := by omega
      rw [if_neg h0] at hk
      have := hk H'
      refine this ?_
      unfold Rl.spent
      simp only
      rw [if_neg h0]
      exact hO
theorem put_sn {d : Dv} {a : Int} {s : List Int} (h : d.has a) (hs : ∀ i, i < d.cells.length → (d.cells.getD i zCell).seen = lastAt d.done i (d.cells.getD i zCell).kept) :
    ∀ i, i < (d.put a s).cells.length → ((d.put a s).cells.getD i zCell).seen = lastAt (d.put a s).done i ((d.put a s).cells.getD i zCell).kept := by
  obtain ⟨hi, e⟩ := Dv.get h
  intro i hil
  have hl : i < d.cells.length := by simpa [Dv.put] using hil
  show ((d.cells.set a.toNat { d.cell a with seen := s }).getD i zCell).seen = lastAt (d.done ++ [(a.toNat, s)]) i _
  rw [lastAt_snoc]
  rw [List.getD_eq_getElem?_getD, List.getElem?_set]
  by_cases hx : a.toNat = i
  · rw [if_pos hx, if_pos hi, if_pos hx]; rfl
  · rw [if_neg hx, if_neg hx]
    rw [← List.getD_eq_getElem?_getD, hs i hl]
    show _ = lastAt d.done i ((d.cells.set a.toNat { d.cell a with seen := s }).getD i zCell).kept
    rw [List.getD_eq_getElem?_getD (l := d.cells.set _ _), List.getElem?_set, if_neg hx, ← List.getD_eq_getElem?_getD]
theorem put_wr {d : Dv} {a : Int} {s : List Int} (ok : ∀ c ∈ d.cells, c.wear ≤ d.most) (h : d.has a) : ∀ c ∈ (d.put a s).cells, c.wear ≤ (d.put a s).most := by
  obtain ⟨hi, e⟩ := Dv.get h
  intro c hc
  rcases List.mem_or_eq_of_mem_set hc with hc | rfl
  · exact ok c hc
  · show (d.cell a).wear ≤ d.most
    rw [← e]; exact ok _ (List.getElem_mem hi)
theorem put_done (h : d.has a) (hs : s.length = 64) (hd : d.done.length ≤ 1000000) (hR : Rok R d) (hO : St H (Γ ++ RW R d)) {q : Nat}
    (hO' : St H ((Γ ++ RW R d) ++ [(q, ⟨int a :: by8 s, true⟩)]))
    (hk : ∀ H' vd' , Own 65 vd' (d.put a s).done.length (chgC (d.put a s).done) → (∃ a1 n1 c1, vd' = .slice a1 n1 c1) →
      St H' (Γ ++ ([(R.pd, ⟨rdv R d, true⟩), (R.pk, ⟨kpC d.cells, true⟩), (R.pw, ⟨wrC d.cells, true⟩)] ++ outB vd' (chgC (d.put a s).done))) → K vd' H') : opW (appendWith 65 72 R.vd (sl q 0 1 131) H) K := by
  have hO2 : St H (((Γ ++ [(R.pd, ⟨rdv R d, true⟩), (R.pk, ⟨kpC d.cells, true⟩), (R.pw, ⟨wrC d.cells, true⟩)]) ++ outB R.vd (chgC d.done)) ++ [(q, ⟨int a :: by8 s, true⟩)]) := by
    rw [List.append_assoc Γ]; exact hO'
  have ha : a = ((a.toNat : Nat) : Int) := by have := h.1; omega
  have ec : chgC d.done ++ (int a :: by8 s) = chgC (d.put a s).done := by
    show _ = (d.done ++ [(a.toNat, s)]).flatMap chg
    rw [List.flatMap_append]
    show _ = d.done.flatMap chg ++ (int ((a.toNat : Nat) : Int) :: by8 s ++ [])
    rw [← ha, List.append_nil]; rfl
  refine append_elem hO2 hR.o (by simp [by8_len, hs]) (by omega) (by simp [by8, oneCell]) (by omega) (by omega) ?_
  intro vd' H hO hv'
  rw [List.append_assoc, ec] at hO
  rw [ec] at hv'
  refine hk H vd' ?_ ?_ hO
  · show Own 65 vd' (d.done ++ [(a.toNat, s)]).length _
    rw [List.length_append]
    exact hv'
  · rcases hv' with ⟨_, h, _⟩ | ⟨p, rfl | rfl, _⟩
    · omega
    · exact ⟨_, _, _, rfl⟩
    · exact ⟨_, _, _, rfl⟩
set_option maxHeartbeats 1000000 in
theorem r6Program_spec (ok : d.Ok) (hs : s.length = 64) (hd : d.done.length ≤ 1000000) (hR : Rok R d) (hO : St H (Γ ++ RW R d))
    (hk : ∀ H' R', St H' (Γ ++ RW R' (d.program a s).1) → R'.pd = R.pd → Rok R' (d.program a s).1 → K (int (d.program a s).2) H') : wCall P n_ref06_Program [ptr R.pd 0, int a, sec s] H K := by
  apply ref06_Program_ok; unfold ref06_Program
  unfold Dv.program at hk
  refine new_at hO ?_
  clear hO
  intro p5 H hO
  replace hO : St H ((Γ ++ [(p5, ⟨by8 s, true⟩)]) ++ RW R d) := St.rot hO
  have i5 : (Γ ++ [(p5, (⟨by8 s, true⟩ : Blk))])[Γ.length + 0]? = some (p5, ⟨by8 s, true⟩) := at_r rfl
  have fin : ∀ {H : Heap} {Δ : List (Nat × Blk)}, St H ((Γ ++ [(p5, ⟨by8 s, true⟩)]) ++ Δ) → St H (Γ ++ Δ) := fun h => St.mid h
  generalize Γ ++ [(p5, (⟨by8 s, true⟩ : Blk))] = Γ' at hO i5 fin
  refine r6Read_spec ok hd hR hO ?_
  clear hO
  intro H hO
  refine opP_i ext0 ?_
  refine opP_i ext1 ?_
  have hrl := Dv.read_len ok (a := a)
  rw [zcS]
  refine new_at hO ?_
  clear hO
  intro p7 H hO
  refine storeAll_at hO (_ + 0) (at_r rfl) (by rw [by8_len]; rfl) (by rw [by8_len]; exact hrl) (by8_one _) ?_
  clear hO
  intro H hO
  replace hO := hO.set_r
  refine opP_i bin_neq ?_
  by_cases h : d.has a
  rotate_left
  · have e1 : (d.read a).2 = 61 := by unfold Dv.read; rw [if_neg h]
    rw [if_pos h] at hk
    rw [e1]
    refine wIf_t rfl ?_
    exact hk _ R (fin hO.left) rfl hR
  have e1 : d.read a = ((d.cell a).seen, 0) := by unfold Dv.read; rw [if_pos h]
  rw [if_neg (fun h' => h' h)] at hk
  rw [e1] at hO hrl ⊢
  refine wIf_f rfl ?_
  refine opP_i nilCheck_ptr ?_
  refine opP_i offPtr_ptr ?_
  refine load_at hO (Γ'.length + 0) (at_l (at_r rfl)) (v := .bool d.down) rfl ?_
  refine wIf_intro (fun hb => ?_) (fun hb => ?_)
  · rw [if_pos hb] at hk
    exact hk _ R (fin hO.left) rfl hR
  rw [if_neg (by rw [hb]; simp)] at hk
  refine loadAll_at hO (_ + 0) (at_r rfl) (by rw [by8_len]; exact hrl) (by omega) ?_
  refine r6Blank_spec hO ?_
  intro H2 hO2
  refine ⟨same_at hO (_ + 0) (at_r rfl) hO2 (_ + 0) (at_r rfl) (by8_simple _), ?_⟩
  refine opP_i (neS _ (Dv.cellOk ok.c h).s rfl) ?_
  clear hO
  refine wIf_dec (fun h1 => ?_) (fun h1 => ?_)
  · rw [if_pos h1] at hk
    exact hk _ R (fin hO2.left) rfl hR
  rw [if_neg h1] at hk
  have hO := hO2.left
  clear hO2
  refine r6spend_spec hb ok.b hR hO ?_
  clear hO
  intro H hO
  refine opP_i un_not ?_
  rw [Bool.not_not]
  have hR2 := hR.step hb
  refine wIf_intro (fun h2 => ?_) (fun h2 => ?_)
  · rw [if_pos h2] at hk
    exact hk _ _ (fin hO) rfl hR2
  rw [if_neg (by rw [h2]; simp)] at hk
  refine opP_i nilCheck_ptr ?_
  refine opP_i offPtr_ptr ?_
  refine load_at hO (Γ'.length + 0) (at_r rfl) (v := R.vd) rfl ?_
  refine loadAll_at hO (Γ.length + 0) (at_l i5) (by rw [by8_len]; exact hs) (by omega) ?_
  refine opP_i (bStep a hs) ?_
  have hO3 := hO
  refine newSl_at hO (bsStep a hs _) ?_
  clear hO hO3
  intro q H hO
  refine put_done (R := R.spent d) (d := d.step) (a := a) (s := s) h hs hd hR2 hO.left hO ?_
  clear hO
  rintro H vd' hv' ⟨a1, n1, c1, e3⟩ hO
  refine opP_i nilCheck_ptr ?_
  refine opP_i offPtr_ptr ?_
  refine store1_at hO (Γ'.length + 0) (at_r rfl) (by rw [e3]; rfl) (show 3 < 7 by omega) rfl ?_
  clear hO
  intro H hO
  replace hO := hO.set_r
  refine hk H { R.spent d with vd := vd' } ?_ rfl ⟨hv', put_sn h hR2.s, hR2.b, put_wr hR2.w h⟩
  have e4 : kpC (d.step.put a s).cells = kpC d.step.cells := kpC_seen (d := d.step) h
  have e5 : wrC (d.step.put a s).cells = wrC d.step.cells := wrC_seen (d := d.step) h
  have e6 : rdv { R.spent d with vd := vd' } (d.step.put a s) = [sl R.pk 0 d.cells.length 129, sl R.pw 0 d.cells.length 3, int d.most, vd', .bool (decide (0 ≤ d.step.budget)), int (R.spent d).bud, .bool d.step.down] := by
    unfold rdv
    show [sl R.pk 0 (d.step.cells.set _ _).length 129, sl R.pw 0 (d.step.cells.set _ _).length 3, _, _, _, _, _] = _
    rw [List.length_set]; rfl
  show St H (Γ ++ ([(R.pd, ⟨rdv { R.spent d with vd := vd' } (d.step.put a s), true⟩), (R.pk, ⟨kpC (d.step.put a s).cells, true⟩), (R.pw, ⟨wrC (d.step.put a s).cells, true⟩)] ++ outB vd' (chgC (d.step.put a s).done)))
  rw [e4, e5, e6]
  exact fin hO
set_option maxHeartbeats 1000000 in
theorem r6New_spec {n w : Nat} (hn : n ≤ 4096) (hw : w ≤ 100000) (hO : St H Γ) (hk : ∀ H' R, St H' (Γ ++ RW R (Dv.new n w)) → Rok R (Dv.new n w) → K (ptr R.pd 0) H') : wCall P n_ref06_New [int n, int w] H K := by
  apply ref06_New_ok; unfold ref06_New
  refine r6within_spec hn ?_
  rw [mkSecs, mkInts]
  refine make_at (k := .i64) (k' := .i64) hO (by omega) (by omega) ?_
  clear hO
  intro pk H hO
  refine make_at (k := .i64) (k' := .i64) hO (by omega) (by omega) ?_
  clear hO
  intro pw H hO
  refine r6within_spec hw ?_
  refine ⟨Nat.beq_refl _, ?_⟩
  refine opP_i (bRdev n pk pw w) ?_
  refine new_at hO ?_
  clear hO
  intro pd H hO
  refine opP_i nilCheck_ptr ?_
  refine opP_i offPtr_ptr ?_
  refine load_at hO (_ + 0) (at_r rfl) (v := sl pk 0 n 129) rfl ?_
  refine opW_i lenSl_sl ?_
  have e1 : repl n (by8 zeros) = (List.replicate n zeros).flatMap by8 := repl_flat by8 zeros n
  have e2 : repl n [int 0] = List.replicate n (int 0) := by rw [repl1_eq]
  rw [e1, e2] at hO
  replace hO : St H ((Γ ++ [(pd, ⟨[sl pk 0 n 129, sl pw 0 n 3, int w, nilSl, .bool false, int 0, .bool false], true⟩), (pw, ⟨List.replicate n (int 0), true⟩)]) ++ [(pk, ⟨(List.replicate n zeros).flatMap by8, true⟩)]) := hO.perm (by
    rw [List.append_assoc, List.append_assoc, List.append_assoc]
    refine List.Perm.append_left Γ ?_
    refine List.Perm.trans List.perm_append_comm ?_
    rw [List.append_assoc]
    show ([(pw, _)] ++ [(pd, _)] ++ [(pk, _)]).Perm ([(pd, _), (pw, _)] ++ [(pk, _)])
    exact List.Perm.append_right _ (List.Perm.swap _ _ _))
  refine ref06_New_L0_ind (fun k l' H' => ∃ y : Nat, y ≤ n ∧ k = n - y ∧ l' = [.pointer none, ptr pd 0, int n, int y] ∧ St H' ((Γ ++ [(pd, ⟨[sl pk 0 n 129, sl pw 0 n 3, int w, nilSl, .bool false, int 0, .bool false], true⟩), (pw, ⟨List.replicate n (int 0), true⟩)]) ++ [(pk, ⟨(List.replicate y blank ++ List.replicate (n - y) zeros).flatMap by8, true⟩)])) _ _ ?_ n _ _ ⟨0, by omega, rfl, rfl, hO⟩
  clear hO
  rintro k l' H' ⟨y, hy, rfl, rfl, hO⟩
  unfold ref06_New_L0
  try simp only [nth_zero, nth_succ]
  refine opP_i bin_lss ?_
  refine wIf_dec (fun h => ?_) (fun h => ?_)
  · have hyl : y < n := by omega
    generalize hC : List.replicate y blank ++ List.replicate (n - y) zeros = C at *
    have hCl : C.length = n := by rw [← hC]; simp; omega
    have okC : ∀ c ∈ C, (by8 c).length = 64 := by
      intro c hc
      rw [← hC] at hc
      rw [by8_len]
      rcases List.mem_append.1 hc with hc | hc
      · rw [(List.mem_replicate.1 hc).2]; rfl
      · rw [(List.mem_replicate.1 hc).2]; rfl
    refine opP_i nilCheck_ptr ?_
    refine opP_i offPtr_ptr ?_
    refine load_at hO (Γ.length + 0) (at_l (at_r rfl)) (v := sl pk 0 n 129) rfl ?_
    refine r6Blank_spec hO ?_
    intro H2 hO2
    refine ⟨same_at hO (Γ.length + 0) (at_l (at_r rfl)) hO2 (Γ.length + 0) (at_l (at_r rfl)) rfl, ?_⟩
    clear hO
    refine opP_i (idxSl_ok (by omega) (by omega)) ?_
    have hcl : (C.flatMap by8).length = n * 64 := by rw [flat_len okC, hCl]
    have hcy := flat_put (f := by8) (l := C) (i := y) (o := 0) (y := blank) (new := by8 blank) okC (by omega) (by rw [by8_len]; decide) (by rw [List.drop_of_length_le (by rw [okC _ (List.getElem_mem _)]; decide)]; simp)
    rw [by8_len] at hcy
    refine store_at hO2 (_ + 0) (at_r rfl) (show (by8 blank).length = 64 by rw [by8_len]; rfl) (by rw [hcl, Int.toNat_natCast]; omega) (by8_one _) ?_
    clear hO2
    intro H hO
    replace hO := hO.set_r
    repeat (first | refine oi ?_ | refine ow ?_ | refine wy ?_ | refine wn ?_ | refine wt ?_ | refine wf' ?_ | refine cy ?_ | refine cn ?_)
    refine ⟨_, by omega, y + 1, by omega, rfl, rfl, ?_⟩
    have e3 : 0 + (y : Int).toNat * 64 = y * 64 + 0 := by rw [Int.toNat_natCast]; omega
    have e4 : C.set y blank = List.replicate (y + 1) blank ++ List.replicate (n - (y + 1)) zeros := by
      rw [← hC, List.set_append_right _ _ (by simp), List.length_replicate, Nat.sub_self, show n - y = (n - (y + 1)) + 1 by omega, List.replicate_succ, List.set_cons_zero, List.replicate_succ']
      simp
    rw [e3] at hO
    rw [← e4, ← hcy]
    exact hO
  · have ey : y = n := by omega
    subst ey
    rw [Nat.sub_self, List.replicate_zero, List.append_nil] at hO
    refine cond_yes rfl ?_
    try simp only [nth_zero, nth_succ]
    have e3 : (List.replicate y blank).flatMap by8 = kpC (Dv.new y w).cells := (repl_flat by8 blank y).symm.trans (repl_flat (fun c : Cell => by8 c.kept) bCell0 y)
    have e4 : List.replicate y (int 0) = wrC (Dv.new y w).cells := by
      show _ = (List.replicate y bCell0).map _
      rw [List.map_replicate]; rfl
    rw [e3, e4] at hO
    refine hk _ ⟨pd, pk, pw, nilSl, 0⟩ ?_ ?_
    · have e5 : rdv ⟨pd, pk, pw, nilSl, 0⟩ (Dv.new y w) = [sl pk 0 y 129, sl pw 0 y 3, int w, nilSl, .bool false, int 0, .bool false] := by
        unfold rdv
        show [sl pk 0 (List.replicate y bCell0).length 129, sl pw 0 (List.replicate y bCell0).length 3, _, _, _, _, _] = _
        rw [List.length_replicate]; rfl
      show St _ (Γ ++ ([(pd, ⟨rdv ⟨pd, pk, pw, nilSl, 0⟩ (Dv.new y w), true⟩), (pk, ⟨kpC (Dv.new y w).cells, true⟩), (pw, ⟨wrC (Dv.new y w).cells, true⟩)] ++ []))
      rw [e5, List.append_nil]
      exact hO.perm (by
        rw [List.append_assoc]
        exact List.Perm.append_left Γ (List.Perm.cons _ (List.Perm.swap _ _ _)))
    · refine ⟨.inl ⟨rfl, rfl, rfl⟩, ?_, fun h => absurd h (show ¬ (0 : Int) ≤ -1 by omega), ?_⟩
      · intro i hi
        have hi : i < y := by simpa [Dv.new] using hi
        show ((List.replicate y bCell0).getD i zCell).seen = ((List.replicate y bCell0).getD i zCell).kept
        rw [List.getD_eq_getElem?_getD, List.getElem?_replicate, if_pos hi]; rfl
      · intro c hc
        rw [(List.mem_replicate.1 hc).2]
        show (0 : Int) ≤ w
        omega
end J
set_option linter.unusedVariables false
set_option linter.unusedSimpArgs false
set_option maxRecDepth 100000
namespace J
open Go Go.Ab
variable {H : Heap} {Γ Γ0 Γ2 Δ G : List (Nat × Blk)} {K : Value → Heap → Prop} {v w x : Value} {xs ys bs : List Int} {j p : Nat} {e : Int} {d : Dv} {a : Int} {s : List Int} {R : Rl} {m : Mp} {part pos : Int}
structure Rm where
  pm : Nat
  ps : Nat
  vo : Value
  r : Rl
def szC (m : Mp) : List Value := m.spans.map fun x => int x.2
def rmv (M : Rm) (m : Mp) : List Value := [ptr M.r.pd 0, sl M.ps 0 m.spans.length 3, int m.who, M.vo]
abbrev RMa (M : Rm) (m : Mp) : List (Nat × Blk) := [(M.pm, ⟨rmv M m, true⟩), (M.ps, ⟨szC m, true⟩)]
abbrev RM (M : Rm) (m : Mp) : List (Nat × Blk) := RMa M m ++ (outB M.vo (opsC m.ops) ++ RW M.r m.d)
structure RMok (M : Rm) (m : Mp) : Prop where
  r : Rok M.r m.d
  o : Own 4 M.vo m.ops.length (opsC m.ops)
  s : m.spans = spansFrom 0 (m.spans.map (·.2))
variable {M : Rm}
theorem RM.toD (h : St H (Γ ++ RM M m)) : St H (((Γ ++ RMa M m) ++ outB M.vo (opsC m.ops)) ++ RW M.r m.d) := by
  rw [List.append_assoc, List.append_assoc]; exact h
theorem RM.ofD (h : St H (((Γ ++ RMa M m) ++ outB M.vo (opsC m.ops)) ++ RW M.r m.d)) : St H (Γ ++ RM M m) := by
  rw [List.append_assoc, List.append_assoc] at h; exact h
theorem sz_at (h : m.has part) : (szC m)[part.toNat]? = some (int (m.span part).2) := by
  have hi : part.toNat < m.spans.length := by have := h.1; have := h.2; omega
  unfold szC Mp.span
  rw [List.getElem?_map, List.getD_eq_getElem?_getD, List.getElem?_eq_getElem hi]; rfl
theorem spansFrom_fst : ∀ (l : List Nat) (n i : Nat), i < l.length → ((spansFrom n l).getD i (0, 0)).1 = n + (l.take i).sum
  | [], _, _, h => absurd h (Nat.not_lt_zero _)
  | x :: l, n, 0, _ => rfl
  | x :: l, n, i + 1, h => by
    have := spansFrom_fst l (n + x) i (by simpa using h)
    show ((spansFrom (n + x) l).getD i (0, 0)).1 = n + (x + (l.take i).sum)
    rw [this]; omega
theorem span_from (hs : m.spans = spansFrom 0 (m.spans.map (·.2))) (h : m.has part) : (m.span part).1 = ((m.spans.map (·.2)).take part.toNat).sum := by
  have hi : part.toNat < m.spans.length := by have := h.1; have := h.2; omega
  have h1 := spansFrom_fst (m.spans.map (·.2)) 0 part.toNat (by rw [List.length_map]; exact hi)
  rw [← hs, Nat.zero_add] at h1
  exact h1
set_option maxHeartbeats 1000000 in
theorem r7place_spec (ok : m.Ok) (hM : RMok M m) (hO : St H (Γ ++ RM M m)) (hk : K (.tuple [int (m.place part pos).1, int (m.place part pos).2].toArray) H) : wCall P n_ref07_place [ptr M.pm 0, int part, int pos] H K := by
  apply ref07_place_ok; unfold ref07_place
  unfold Mp.place at hk
  refine join_with (fun l' H' => l' = [ptr M.pm 0, int part, int pos, int 0, int 0, .bool (decide (¬ m.has part))] ∧ H' = H) ?_ ?_
  · refine opP_i bin_lss ?_
    refine wIf_dec (fun h => ?_) (fun h => ?_)
    · refine opP_i (pick_yes h) ?_
      rw [decide_eq_true (show ¬ m.has part from fun h2 => by have := h2.1; omega)]
      exact ⟨rfl, rfl⟩
    · refine opP_i nilCheck_ptr ?_
      refine opP_i offPtr_ptr ?_
      refine load_at hO (Γ.length + 0) (at_r rfl) (v := sl M.ps 0 m.spans.length 3) rfl ?_
      refine opW_i lenSl_sl ?_
      refine opP_i bin_geq ?_
      refine opP_i (pick_no h) ?_
      rw [decide_eq_decide.2 (show (m.spans.length : Int) ≤ part ↔ ¬ m.has part from ⟨fun h2 h3 => by have := h3.2; omega, fun h2 => by
        by_cases h4 : part < (m.spans.length : Int)
        · exact absurd ⟨by omega, h4⟩ h2
        · omega⟩)]
      exact ⟨rfl, rfl⟩
  rintro l' H' ⟨rfl, rfl⟩
  try simp only [nth_zero, nth_succ]
  by_cases h : m.has part
  rotate_left
  · rw [decide_eq_true h]
    rw [if_pos h] at hk
    exact wIf_t rfl hk
  rw [decide_eq_false (fun h2 => h2 h)]
  rw [if_neg (fun h2 => h2 h)] at hk
  refine wIf_f rfl ?_
  refine join_with (fun l' H'' => l' = [ptr M.pm 0, int part, int pos, int 0, int 0, .bool (decide (pos < 0 ∨ ((m.span part).2 : Int) ≤ pos))] ∧ H'' = H') ?_ ?_
  · refine opP_i bin_lss ?_
    refine wIf_dec (fun h9 => ?_) (fun h9 => ?_)
    · refine opP_i (pick_yes h9) ?_
      rw [decide_eq_true (.inl h9)]
      exact ⟨rfl, rfl⟩
    · refine opP_i nilCheck_ptr ?_
      refine opP_i offPtr_ptr ?_
      refine load_at hO (Γ.length + 0) (at_r rfl) (v := sl M.ps 0 m.spans.length 3) rfl ?_
      refine opP_i (idxSl_ok h.1 h.2) ?_
      refine load_at hO (Γ.length + 1) (at_r rfl) (v := int (m.span part).2) (by rw [Nat.zero_add, Nat.mul_one]; exact sz_at h) ?_
      refine opP_i bin_geq ?_
      refine opP_i (pick_no h9) ?_
      rw [decide_eq_decide.2 (show ((m.span part).2 : Int) ≤ pos ↔ (pos < 0 ∨ ((m.span part).2 : Int) ≤ pos) by omega)]
      exact ⟨rfl, rfl⟩
  rintro l' H'' ⟨rfl, rfl⟩
  try simp only [nth_zero, nth_succ]
  refine wIf_dec (fun h1 => ?_) (fun h1 => ?_)
  · rw [if_pos h1] at hk
    exact hk
  rw [if_neg h1] at hk
  have hsp := ok.s _ (Mp.span_mem h)
  have hn := ok.d.n
  have hsf := span_from hM.s h
  refine ref07_place_L0_ind (fun k l' H1 => ∃ y : Nat, y ≤ part.toNat ∧ k = part.toNat - y ∧ l' = [ptr M.pm 0, int part, int 0, int 0, int (pos + (((m.spans.map (·.2)).take y).sum : Nat)), int y] ∧ H1 = H'') _ _ ?_ part.toNat _ _ ⟨0, by omega, rfl, by simp, rfl⟩
  rintro k l' H1 ⟨y, hy, rfl, rfl, rfl⟩
  unfold ref07_place_L0
  try simp only [nth_zero, nth_succ]
  refine opP_i bin_lss ?_
  refine wIf_dec (fun h2 => ?_) (fun h2 => ?_)
  · have hyl : y < part.toNat := by omega
    have hh2 := h.2
    have hh16 := ok.n
    have hyh : m.has (y : Int) := ⟨by omega, by have := h.2; omega⟩
    have hyl2 : y < m.spans.length := by have := h.2; omega
    have hss := sum_take_succ (m.spans.map (·.2)) y (by simpa using hyl2)
    have hle : ((m.spans.map (·.2)).take (y + 1)).sum ≤ ((m.spans.map (·.2)).take part.toNat).sum := by
      have := sum_take_le ((m.spans.map (·.2)).take part.toNat) (y + 1)
      rw [List.take_take, Nat.min_eq_left (by omega)] at this
      exact this
    have hsz : (m.span (y : Int)).2 = (m.spans.map (·.2))[y]'(by simpa using hyl2) := by
      unfold Mp.span
      rw [Int.toNat_natCast, List.getD_eq_getElem?_getD, List.getElem?_eq_getElem hyl2]; simp
    refine opP_i nilCheck_ptr ?_
    refine opP_i offPtr_ptr ?_
    refine load_at hO (Γ.length + 0) (at_r rfl) (v := sl M.ps 0 m.spans.length 3) rfl ?_
    refine opP_i (idxSl_ok hyh.1 hyh.2) ?_
    refine load_at hO (Γ.length + 1) (at_r rfl) (v := int (m.span (y : Int)).2) (by rw [Nat.zero_add, Nat.mul_one]; exact sz_at hyh) ?_
    rw [hsz]
    refine opP_i (bin_addi (by omega) (by omega)) ?_
    repeat (first | refine oi ?_ | refine ow ?_ | refine wy ?_ | refine wn ?_ | refine wt ?_ | refine wf' ?_ | refine cy ?_ | refine cn ?_)
    refine ⟨_, by omega, y + 1, by omega, rfl, ?_, rfl⟩
    rw [hss, Int.natCast_add, ← Int.add_assoc]
    rfl
  · have ey : y = part.toNat := by omega
    subst ey
    refine cond_yes rfl ?_
    try simp only [nth_zero, nth_succ]
    rw [hsf] at hk
    rw [Int.add_comm pos]
    exact hk
theorem r7Read_spec (ok : m.Ok) (hd : m.Sm 1000000) (hM : RMok M m) (hO : St H (Γ ++ RM M m)) (hk : ∀ H', St H' (Γ ++ RM M m) → K (.tuple [sec (m.read part pos).1, int (m.read part pos).2].toArray) H') : wCall P n_ref07_Read [ptr M.pm 0, int part, int pos] H K := by
  apply ref07_Read_ok; unfold ref07_Read
  rw [zcS]
  refine new_at hO ?_
  clear hO
  intro p6 H hO
  replace hO := hO.rot
  have i6 : (Γ ++ [(p6, (⟨by8 zeros, true⟩ : Blk))])[Γ.length + 0]? = some (p6, ⟨by8 zeros, true⟩) := at_r rfl
  refine r7place_spec ok hM hO ?_
  refine opP_i ext0 ?_
  refine opP_i ext1 ?_
  refine opP_i bin_neq ?_
  unfold Mp.read at hk
  refine wIf_dec (fun h => ?_) (fun h => ?_)
  · rw [if_pos h] at hk
    refine opP_i bS ?_
    refine storeAll_at hO (Γ.length + 0) (at_l i6) (by rw [by8_len]; rfl) (by rw [by8_len]; rfl) (by8_one _) ?_
    clear hO
    intro H hO
    rw [List.set_append_left _ _ (by simp), Go.Ab.set_r] at hO
    refine loadAll_at hO (Γ.length + 0) (at_l (at_r rfl)) (by rw [by8_len]; rfl) (by omega) ?_
    exact hk _ (St.mid hO)
  · rw [if_neg h] at hk
    refine opP_i nilCheck_ptr ?_
    refine opP_i offPtr_ptr ?_
    refine load_at hO ((Γ ++ [(p6, (⟨by8 zeros, true⟩ : Blk))]).length + 0) (at_r rfl) (v := ptr M.r.pd 0) rfl ?_
    refine r6Read_spec ok.d hd.1 hM.r (RM.toD hO) ?_
    clear hO
    intro H hO
    replace hO := RM.ofD hO
    refine opP_i ext0 ?_
    refine opP_i ext1 ?_
    have hl := Dv.read_len ok.d (a := (m.place part pos).1)
    refine storeAll_at hO (Γ.length + 0) (at_l i6) (by rw [by8_len]; rfl) (by rw [by8_len]; exact hl) (by8_one _) ?_
    clear hO
    intro H hO
    rw [List.set_append_left _ _ (by simp), Go.Ab.set_r] at hO
    refine loadAll_at hO (Γ.length + 0) (at_l (at_r rfl)) (by rw [by8_len]; exact hl) (by omega) ?_
    exact hk _ (St.mid hO)
end J
set_option linter.unusedVariables false
set_option linter.unusedSimpArgs false
set_option maxRecDepth 100000
namespace J
open Go Go.Ab
variable {H : Heap} {Γ Γ0 Γ2 Δ G : List (Nat × Blk)} {K : Value → Heap → Prop} {v w x : Value} {xs ys bs : List Int} {j p : Nat} {e : Int} {d : Dv} {a : Int} {s : List Int} {R : Rl} {m : Mp} {part pos : Int} {M : Rm}
theorem bROp (a b c w : Int) : (buildC P 82).f [(0, int a), (1, int b), (2, int c), (3, int w)] = some (agg (opC ⟨a, b, c, w⟩)) := by kernel_rfl
theorem own_shape4 {size n : Nat} {v : Value} {cs : List Value} (h : Own size v n cs) : ∃ a1 n1 c1, v = .slice a1 n1 c1 := by
  rcases h with ⟨h, _⟩ | ⟨p, rfl | rfl, _⟩
  · exact ⟨_, _, _, h⟩
  · exact ⟨_, _, _, rfl⟩
  · exact ⟨_, _, _, rfl⟩
theorem note_done {o : Op} {q : Nat} (hs : m.ops.length ≤ 1000000000) (hM : RMok M m) (hO : St H ((Γ ++ RM M m) ++ [(q, ⟨opC o, true⟩)]))
    (hk : ∀ H' vo', Own 4 vo' (m.ops ++ [o]).length (opsC (m.ops ++ [o])) → St H' (Γ ++ (RMa M m ++ (outB vo' (opsC (m.ops ++ [o])) ++ RW M.r m.d))) → K vo' H') : opW (appendWith 4 32 M.vo (sl q 0 1 9) H) K := by
  have hO2 : St H ((((Γ ++ RMa M m) ++ RW M.r m.d) ++ outB M.vo (opsC m.ops)) ++ [(q, ⟨opC o, true⟩)]) := hO.perm (by classical exact List.perm_iff_count.2 fun _ => by simp only [List.count_append, List.count_nil, List.set_cons_zero]; omega)
  refine append_elem hO2 hM.o rfl (by omega) rfl (by omega) (by omega) ?_
  intro vo' H' hO hv
  rw [opsC_snoc] at hO hv
  refine hk H' vo' (by rw [List.length_append]; exact hv) (hO.perm (by classical exact List.perm_iff_count.2 fun _ => by simp only [List.count_append, List.count_nil, List.set_cons_zero]; omega))
theorem RM.dev {R' : Rl} {d' : Dv} (hp : R'.pd = M.r.pd) (hO : St H (((Γ ++ RMa M m) ++ outB M.vo (opsC m.ops)) ++ RW R' d')) : St H (Γ ++ RM { M with r := R' } { m with d := d' }) := by
  rw [List.append_assoc, List.append_assoc] at hO
  show St H (Γ ++ ([(M.pm, ⟨[ptr R'.pd 0, sl M.ps 0 m.spans.length 3, int m.who, M.vo], true⟩), (M.ps, ⟨szC m, true⟩)] ++ (outB M.vo (opsC m.ops) ++ RW R' d')))
  rw [hp]
  exact hO
set_option maxHeartbeats 1000000 in
theorem r7Program_spec (ok : m.Ok) (hl : s.length = 64) (hs : m.Sm 1000000) (hM : RMok M m) (hO : St H (Γ ++ RM M m))
    (hk : ∀ H' M', St H' (Γ ++ RM M' (m.program part pos s).1) → M'.pm = M.pm → M'.r.pd = M.r.pd → RMok M' (m.program part pos s).1 → K (int (m.program part pos s).2) H') : wCall P n_ref07_Program [ptr M.pm 0, int part, int pos, sec s] H K := by
  apply ref07_Program_ok; unfold ref07_Program
  refine new_at hO ?_
  clear hO
  intro p7 H hO
  replace hO : St H ((Γ ++ [(p7, ⟨by8 s, true⟩)]) ++ RM M m) := St.rot hO
  have i7 : (Γ ++ [(p7, (⟨by8 s, true⟩ : Blk))])[Γ.length + 0]? = some (p7, ⟨by8 s, true⟩) := at_r rfl
  have fin : ∀ {H : Heap} {Δ : List (Nat × Blk)}, St H ((Γ ++ [(p7, ⟨by8 s, true⟩)]) ++ Δ) → St H (Γ ++ Δ) := fun h => St.mid h
  generalize Γ ++ [(p7, (⟨by8 s, true⟩ : Blk))] = Γ' at hO i7 fin
  refine r7place_spec ok hM hO ?_
  refine opP_i ext0 ?_
  refine opP_i ext1 ?_
  unfold Mp.program at hk
  refine join_with (fun l' H' => ∃ (M' : Rm) (d' : Dv) (e' : Int), l' = [ptr M.pm 0, int part, int pos, int e'] ∧ St H' (Γ' ++ RM M' { m with d := d' }) ∧ M'.pm = M.pm ∧ M'.r.pd = M.r.pd ∧ RMok M' { m with d := d' } ∧ ((m.place part pos).2 ≠ 0 ∧ d' = m.d ∧ e' = (m.place part pos).2 ∨ (m.place part pos).2 = 0 ∧ d' = (m.d.program (m.place part pos).1 s).1 ∧ e' = (m.d.program (m.place part pos).1 s).2)) ?_ ?_
  · refine opP_i bin_eql ?_
    refine wIf_dec (fun h => ?_) (fun h => ?_)
    · refine opP_i nilCheck_ptr ?_
      refine opP_i offPtr_ptr ?_
      refine load_at hO (Γ'.length + 0) (at_r rfl) (v := ptr M.r.pd 0) rfl ?_
      refine loadAll_at hO (Γ.length + 0) (at_l i7) (by rw [by8_len]; exact hl) (by omega) ?_
      refine r6Program_spec ok.d hl hs.1 hM.r (RM.toD hO) ?_
      clear hO
      intro H R' hO hp hR
      exact ⟨{ M with r := R' }, _, _, rfl, RM.dev hp hO, rfl, hp, ⟨hR, hM.o, hM.s⟩, .inr ⟨h, rfl, rfl⟩⟩
    · exact ⟨M, m.d, _, rfl, hO, rfl, rfl, hM, .inl ⟨h, rfl, rfl⟩⟩
  clear hO
  rintro l' H ⟨M', d', e', rfl, hO, hpm, hpd, hM', hc⟩
  try simp only [nth_zero, nth_succ]
  refine opP_i bin_eql ?_
  rw [← hpm]
  refine wIf_dec (fun h => ?_) (fun h => ?_)
  · rcases hc with ⟨hp, rfl, rfl⟩ | ⟨hp, rfl, rfl⟩
    · exact absurd h hp
    rw [if_neg (by rw [hp]; simp)] at hk
    unfold Mp.note at hk
    simp only [if_pos h] at hk
    refine opP_i nilCheck_ptr ?_
    refine opP_i offPtr_ptr ?_
    refine load_at hO (Γ'.length + 0) (at_r rfl) (v := M'.vo) rfl ?_
    refine opP_i nilCheck_ptr ?_
    refine opP_i offPtr_ptr ?_
    refine load_at hO (Γ'.length + 0) (at_r rfl) (v := int m.who) rfl ?_
    refine opP_i (bROp _ _ _ _) ?_
    refine newSl_at hO (bOps _ _) ?_
    clear hO
    intro q H hO
    refine note_done (by exact Nat.le_trans hs.2 (by omega)) hM' hO ?_
    clear hO
    intro H vo' hv hO
    obtain ⟨a1, n1, c1, e1⟩ := own_shape4 hv
    refine opP_i nilCheck_ptr ?_
    refine opP_i offPtr_ptr ?_
    refine store1_at hO (Γ'.length + 0) (at_r rfl) (by rw [e1]; rfl) (show 3 < 4 by omega) rfl ?_
    clear hO
    intro H hO
    replace hO := hO.set_r
    exact hk H { M' with vo := vo' } (fin hO) hpm hpd ⟨hM'.r, hv, hM'.s⟩
  · rcases hc with ⟨hp, rfl, rfl⟩ | ⟨hp, rfl, rfl⟩
    · rw [if_pos hp] at hk
      exact hk H M' (fin hO) hpm hpd hM'
    · rw [if_neg (by rw [hp]; simp)] at hk
      unfold Mp.note at hk
      simp only [if_neg h] at hk
      exact hk H M' (fin hO) hpm hpd hM'
theorem r7All_spec (ok : m.Ok) (hs : m.Sm 1000000) (hM : RMok M m) (hO : St H (Γ ++ RM M m)) (hk : ∀ H' v cs, St H' ((Γ ++ RM M m) ++ outB v cs) → OwnB v (m.all part) cs → K v H') : wCall P n_ref07_All [ptr M.pm 0, int part] H K := by
  apply ref07_All_ok; unfold ref07_All
  refine newSl_at hO (bs46_0 _) ?_
  clear hO
  intro q H hO
  refine join_with (fun l' H' => l' = [ptr M.pm 0, int part, nilSl, sl q 0 0 3, .bool (decide (¬ m.has part))] ∧ H' = H) ?_ ?_
  · refine opP_i bin_lss ?_
    refine wIf_dec (fun h => ?_) (fun h => ?_)
    · refine opP_i (pick_yes h) ?_
      rw [decide_eq_true (show ¬ m.has part from fun h2 => by have := h2.1; omega)]
      exact ⟨rfl, rfl⟩
    · refine opP_i nilCheck_ptr ?_
      refine opP_i offPtr_ptr ?_
      refine load_at hO (Γ.length + 0) (at_l (at_r rfl)) (v := sl M.ps 0 m.spans.length 3) rfl ?_
      refine opW_i lenSl_sl ?_
      refine opP_i bin_geq ?_
      refine opP_i (pick_no h) ?_
      rw [decide_eq_decide.2 (show (m.spans.length : Int) ≤ part ↔ ¬ m.has part from ⟨fun h2 h3 => by have := h3.2; omega, fun h2 => by
        by_cases h4 : part < (m.spans.length : Int)
        · exact absurd ⟨by omega, h4⟩ h2
        · omega⟩)]
      exact ⟨rfl, rfl⟩
  rintro l' H' ⟨rfl, rfl⟩
  try simp only [nth_zero, nth_succ]
  have hO0 : St H' ((Γ ++ RM M m) ++ outB (sl q 0 0 3) []) := hO
  have hv0 : OwnB (sl q 0 0 3) [] [] := .inr ⟨q, .inr ⟨rfl, rfl⟩, rfl, Nat.le_refl _, rfl⟩
  by_cases h : m.has part
  rotate_left
  · rw [decide_eq_true h]
    refine wIf_t rfl ?_
    have e1 : m.all part = [] := by unfold Mp.all Mp.size; rw [if_neg h]; rfl
    rw [e1] at hk
    exact hk _ _ _ hO0 hv0
  rw [decide_eq_false (fun h2 => h2 h)]
  refine wIf_f rfl ?_
  have hsz : m.size part = (m.span part).2 := by unfold Mp.size; rw [if_pos h]
  refine ref07_All_L0_ind (fun k l' H' => ∃ (y : Nat) (v : Value) (cs : List Value), y ≤ m.size part ∧ k = m.size part - y ∧ l' = [ptr M.pm 0, int part, nilSl, v, int y] ∧ St H' ((Γ ++ RM M m) ++ outB v cs) ∧ OwnB v (m.upto part y) cs) _ _ ?_ (m.size part) _ _ ⟨0, _, _, by omega, rfl, rfl, hO0, hv0⟩
  clear hO hO0 hv0
  rintro k l' H ⟨y, v, cs, hy, rfl, rfl, hO, hv⟩
  unfold ref07_All_L0
  try simp only [nth_zero, nth_succ]
  refine opP_i nilCheck_ptr ?_
  refine opP_i offPtr_ptr ?_
  refine load_at hO (Γ.length + 0) (at_l (at_r rfl)) (v := sl M.ps 0 m.spans.length 3) rfl ?_
  refine opP_i (idxSl_ok h.1 h.2) ?_
  refine load_at hO (Γ.length + 1) (at_l (at_r rfl)) (v := int (m.span part).2) (by rw [Nat.zero_add, Nat.mul_one]; exact sz_at h) ?_
  rw [← hsz]
  refine opP_i bin_lss ?_
  refine wIf_dec (fun h2 => ?_) (fun h2 => ?_)
  · have hyl : y < m.size part := by omega
    have hsle := Mp.size_le ok (part := part)
    have hul := Mp.upto_len ok (part := part) y
    refine r7Read_spec ok hs hM hO.rot ?_
    clear hO
    intro H hO
    refine opP_i ext0 ?_
    refine opP_i ext1 ?_
    have hrl := Mp.read_len ok (part := part) (pos := (y : Int))
    rw [zcS]
    have hO2 := hO.rot
    clear hO
    refine new_at hO2 ?_
    clear hO2
    intro p7 H hO
    refine storeAll_at hO (_ + 0) (at_r rfl) (by rw [by8_len]; rfl) (by rw [by8_len]; exact hrl) (by8_one _) ?_
    clear hO
    intro H hO
    replace hO := hO.set_r
    refine opP_i (slice_arr hO (_ + 0) (at_r rfl) (by omega) (by show _ ≤ (by8 _).length; rw [by8_len, hrl]; omega)) ?_
    refine append_new (ys := (m.read part y).1) hO hv (by omega) hrl.symm (.inr rfl) ?_
    clear hO hv
    intro H v cs hO hv
    repeat (first | refine oi ?_ | refine ow ?_ | refine wy ?_ | refine wn ?_ | refine wt ?_ | refine wf' ?_ | refine cy ?_ | refine cn ?_)
    refine ⟨_, by omega, y + 1, v, cs, by omega, rfl, rfl, hO, ?_⟩
    have e2 : m.upto part (y + 1) = m.upto part y ++ (m.read part y).1 := by
      unfold Mp.upto
      rw [List.range_succ, List.flatMap_append]; simp
    rw [e2]
    exact hv
  · have ey : y = m.size part := by omega
    subst ey
    refine cond_yes rfl ?_
    try simp only [nth_zero, nth_succ]
    exact hk _ _ _ hO hv
end J
