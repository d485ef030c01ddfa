/- texts of the proof, one behind the other -/
import Derived.Test.YtccblhllmplmaaaUC
set_option linter.unusedVariables false
set_option linter.unusedSimpArgs false
set_option maxRecDepth 100000
namespace J
open Go Go.Ab
variable {H : Heap} {Γ : List (Nat × Blk)} {K : Value → Heap → Prop} {v w x : Value} {xs ys bs : List Int} {j p : Nat} {e : Int}
variable {L : Mloc} {m : Mp} {part pos : Int} {s : List Int}
def spansFrom : Nat → List Nat → List (Nat × Nat)
  | _, [] => []
  | n, x :: l => (n, x) :: spansFrom (n + x) l
theorem spans_len : ∀ (l : List Nat) (n : Nat), (spansFrom n l).length = l.length
  | [], _ => rfl
  | x :: l, n => by show (spansFrom (n + x) l).length + 1 = _; rw [spans_len l]; rfl
theorem spans_take : ∀ (l : List Nat) (n y : Nat) (h : y < l.length), (spansFrom n l).take (y + 1) = (spansFrom n l).take y ++ [(n + (l.take y).sum, l[y])]
  | x :: l, n, 0, _ => by simp [spansFrom]
  | x :: l, n, y + 1, h => by
    have := spans_take l (n + x) y (by simpa using h)
    show (n, x) :: (spansFrom (n + x) l).take (y + 1) = (n, x) :: (spansFrom (n + x) l).take y ++ [(n + (x + (l.take y).sum), _)]
    rw [this, Nat.add_assoc]; rfl
theorem bMap (pd : Nat) : (buildC P 115).f [(0, ptr pd 0)] = some (agg [ptr pd 0, nilSl, int 0, nilSl]) := by kernel_rfl
theorem bSpan (a b : Int) : (buildC P 128).f [(0, int a), (1, int b)] = some (agg [int a, int b]) := by kernel_rfl
theorem bsSpan (a b : Int) (H : Heap) : (buildSliceC P 112 1).f [(0, agg [int a, int b])] H = some (sl H.next 0 1 5, H.push [int a, int b]) := by kernel_rfl
theorem sum_take_le : ∀ (l : List Nat) (y : Nat), (l.take y).sum ≤ l.sum
  | [], y => by simp
  | x :: l, 0 => by simp
  | x :: l, y + 1 => by simp; exact sum_take_le l y
theorem sum_take_succ (l : List Nat) (y : Nat) (h : y < l.length) : (l.take (y + 1)).sum = (l.take y).sum + l[y] := by
  rw [List.take_succ_eq_append_getElem h, List.sum_append]; simp
set_option maxHeartbeats 1000000 in
theorem mNew_spec {pd pc q c : Nat} {vd : Value} {d : Dv} {sizes : List Nat} {jz : Nat} {b : Bool} (ok : d.Ok) (hO : St H (Γ ++ DW pd pc vd d)) (hz : Γ[jz]? = some (q, ⟨sizes.map fun (n : Nat) => int n, b⟩)) (h0 : 0 < sizes.length) (h16 : sizes.length ≤ 16)
    (h1 : ∀ n ∈ sizes, 1 ≤ n) (hs : sizes.sum ≤ d.cells.length) (hv : OwnD vd d)
    (hk : ∀ H' pm ps, St H' (Γ ++ MW ⟨pm, pd, pc, ps, vd, nilSl⟩ ⟨d, spansFrom 0 sizes, 0, []⟩) → Mown ⟨pm, pd, pc, ps, vd, nilSl⟩ ⟨d, spansFrom 0 sizes, 0, []⟩ → K (.tuple [ptr pm 0, int 0].toArray) H') : wCall P n_part_New [ptr pd 0, sl q 0 sizes.length c] H K := by
  apply part_New_ok; unfold part_New
  refine join_with (fun l' H' => l' = [ptr pd 0, sl q 0 sizes.length c, .pointer none, int 0, .bool false] ∧ H' = H) ?_ ?_
  · repeat (first | refine oi ?_ | refine ow ?_ | refine wy ?_ | refine wn ?_ | refine wt ?_ | refine wf' ?_ | refine cy ?_ | refine cn ?_)
    rw [decide_eq_false (by omega)]
    exact ⟨rfl, rfl⟩
  rintro l' H' ⟨rfl, rfl⟩
  try simp only [nth_zero, nth_succ]
  refine wIf_f rfl ?_
  refine opP_i (bMap pd) ?_
  refine new_at hO ?_
  clear hO
  intro pm H hO
  replace hO : St H (((Γ ++ DW pd pc vd d) ++ [(pm, ⟨[ptr pd 0, nilSl, int 0, nilSl], true⟩)]) ++ outB nilSl (spC [])) := by
    show St H (((Γ ++ DW pd pc vd d) ++ [(pm, ⟨[ptr pd 0, nilSl, int 0, nilSl], true⟩)]) ++ [])
    rw [List.append_nil]; exact hO
  repeat (first | refine oi ?_ | refine ow ?_ | refine wy ?_ | refine wn ?_ | refine wt ?_ | refine wf' ?_ | refine cy ?_ | refine cn ?_)
  have hdn := ok.n
  have hlen := spans_len sizes 0
  refine part_New_L0_ind (fun k l' H' => ∃ (y : Nat) (vs : Value), y ≤ sizes.length ∧ k = sizes.length - y ∧ l' = [ptr pd 0, .pointer none, int 0, ptr pm 0, int ((sizes.take y).sum : Nat), sl q 0 sizes.length c, int sizes.length, int y] ∧ St H' (((Γ ++ DW pd pc vd d) ++ [(pm, ⟨[ptr pd 0, vs, int 0, nilSl], true⟩)]) ++ outB vs (spC ((spansFrom 0 sizes).take y))) ∧ Own 2 vs y (spC ((spansFrom 0 sizes).take y)) ∧ (0 < y → ∃ ps, vs = sl ps 0 y 4)) _ _ ?_ sizes.length _ _ ⟨0, nilSl, by omega, rfl, rfl, hO, .inl ⟨rfl, rfl, rfl⟩, fun h => absurd h (by omega)⟩
  clear hO
  rintro k l' H ⟨y, vs, hy, rfl, rfl, hO, hvs, hps⟩
  unfold part_New_L0
  try simp only [nth_zero, nth_succ]
  have hst := sum_take_le sizes y
  repeat (first | refine oi ?_ | refine ow ?_ | refine wy ?_ | refine wn ?_ | refine wt ?_ | refine wf' ?_ | refine cy ?_ | refine cn ?_)
  refine wIf_dec (fun h => ?_) (fun h => ?_)
  · have hyl : y < sizes.length := by omega
    have hm := h1 _ (List.getElem_mem hyl)
    have hst1 := sum_take_le sizes (y + 1)
    have hss := sum_take_succ sizes y hyl
    refine opP_i (idxSl_ok (by omega) (by omega)) ?_
    refine load_at hO jz (at_l (at_l (at_l hz))) (v := int sizes[y]) (by
      show (sizes.map fun (n : Nat) => int n)[0 + ((y : Nat) : Int).toNat * 1]? = _
      rw [Int.toNat_natCast, show 0 + y * 1 = y by omega]; simp [hyl]) ?_
    refine join_with (fun l' H' => l' = [ptr pd 0, .pointer none, int 0, ptr pm 0, int ((sizes.take y).sum : Nat), int sizes[y], sl q 0 sizes.length c, int sizes.length, int y, .bool false] ∧ H' = H) ?_ ?_
    · refine opP_i bin_lss ?_
      rw [decide_eq_false (show ¬ ((sizes[y] : Nat) : Int) < 1 by omega)]
      refine wIf_f rfl ?_
      refine dSize_spec hO (at_l (at_l (at_r (k := 0) rfl))) ?_
      repeat (first | refine oi ?_ | refine ow ?_ | refine wy ?_ | refine wn ?_ | refine wt ?_ | refine wf' ?_ | refine cy ?_ | refine cn ?_)
      rw [decide_eq_false (show ¬ ((d.cells.length : Int) - ((sizes.take y).sum : Nat)) < ((sizes[y] : Nat) : Int) by omega)]
      exact ⟨rfl, rfl⟩
    rintro l' H' ⟨rfl, rfl⟩
    try simp only [nth_zero, nth_succ]
    refine wIf_f rfl ?_
    repeat (first | refine oi ?_ | refine ow ?_ | refine wy ?_ | refine wn ?_ | refine wt ?_ | refine wf' ?_ | refine cy ?_ | refine cn ?_)
    refine load_at hO ((Γ ++ DW pd pc vd d).length + 0) (at_l (at_r rfl)) rfl ?_
    refine opP_i (bSpan _ _) ?_
    refine newSl_at hO (bsSpan _ _ _) ?_
    clear hO
    intro q2 H hO
    refine append_elem2 hO hvs rfl (by omega) rfl (by omega) (by omega) ?_
    clear hO
    intro ps H hO hvs'
    have e5 : spC ((spansFrom 0 sizes).take y) ++ [int ((sizes.take y).sum : Nat), int sizes[y]] = spC ((spansFrom 0 sizes).take (y + 1)) := by
      rw [spans_take sizes 0 y hyl]
      simp [spC]
    rw [e5] at hO hvs'
    repeat (first | refine oi ?_ | refine ow ?_ | refine wy ?_ | refine wn ?_ | refine wt ?_ | refine wf' ?_ | refine cy ?_ | refine cn ?_)
    refine store1_at hO ((Γ ++ DW pd pc vd d).length + 0) (at_l (at_r rfl)) rfl (show 1 < 4 by omega) rfl ?_
    clear hO
    intro H hO
    rw [List.set_append_left _ _ (by simp), Go.Ab.set_r] at hO
    repeat (first | refine oi ?_ | refine ow ?_ | refine wy ?_ | refine wn ?_ | refine wt ?_ | refine wf' ?_ | refine cy ?_ | refine cn ?_)
    refine ⟨_, by omega, y + 1, _, by omega, rfl, ?_, hO, hvs', fun _ => ⟨ps, rfl⟩⟩
    rw [hss]
    simp
  · have ey : y = sizes.length := by omega
    subst ey
    rw [List.take_of_length_le (by rw [hlen]; exact Nat.le_refl _)] at hO hvs
    obtain ⟨ps, rfl⟩ := hps h0
    repeat (first | refine oi ?_ | refine ow ?_ | refine wy ?_ | refine wn ?_ | refine wt ?_ | refine wf' ?_ | refine cy ?_ | refine cn ?_)
    refine hk H pm ps ?_ ⟨hv, .inl ⟨rfl, rfl, rfl⟩⟩
    have h3 : St H (((Γ ++ DW pd pc vd d) ++ [(pm, ⟨[ptr pd 0, sl ps 0 sizes.length 4, int 0, nilSl], true⟩)]) ++ [(ps, ⟨spC (spansFrom 0 sizes), true⟩)]) := hO
    rw [List.append_assoc] at h3
    have h4 := h3.rot
    rw [List.append_assoc] at h4
    have e7 : mv ⟨pm, pd, pc, ps, vd, nilSl⟩ ⟨d, spansFrom 0 sizes, 0, []⟩ = [ptr pd 0, sl ps 0 sizes.length 4, int 0, nilSl] := by unfold mv; rw [hlen]
    show St H (Γ ++ ([(pm, ⟨mv ⟨pm, pd, pc, ps, vd, nilSl⟩ ⟨d, spansFrom 0 sizes, 0, []⟩, true⟩), (ps, ⟨spC (spansFrom 0 sizes), true⟩)] ++ ([] ++ DW pd pc vd d)))
    rw [e7, List.nil_append]
    exact h4
end J
set_option linter.unusedVariables false
set_option linter.unusedSimpArgs false
set_option maxRecDepth 100000
namespace J
open Go Go.Ab
variable {H : Heap} {Γ : List (Nat × Blk)} {K : Value → Heap → Prop} {v w x : Value} {xs ys bs : List Int} {j p : Nat} {e : Int}
noncomputable def crcB (r : Nat) (x : Int) : Nat := crcN 8 (r ^^^ x.toNat)
noncomputable def crcMore (sum : Nat) (bs : List Int) : Nat := 4294967295 - bs.foldl crcB (4294967295 - sum)
theorem crcB_lt {r : Nat} {x : Int} (h : r < 4294967296) (hx : 0 ≤ x ∧ x ≤ 255) : crcB r x < 4294967296 := crcN_lt (Nat.xor_lt_two_pow (n := 32) h (show x.toNat < 2 ^ 32 by omega)) 8
theorem crcF_lt : ∀ (bs : List Int) (r : Nat), r < 4294967296 → (∀ x ∈ bs, 0 ≤ x ∧ x ≤ 255) → bs.foldl crcB r < 4294967296
  | [], _, h, _ => h
  | x :: bs, r, h, hb => crcF_lt bs _ (crcB_lt h (hb x List.mem_cons_self)) fun y hy => hb y (List.mem_cons_of_mem _ hy)
theorem byte_at {K : Value → Heap → Prop} (hO : St H Γ) (h : RdB Γ v xs) {i : Int} {n : Nat} (hn : i = n) (hi : n < xs.length) (hk : K (.int .u8 xs[n]) H) : opP (idxSl 1 v (int i)) fun t => opW (loadOne t H) K := by
  subst hn
  obtain ⟨p2, o, c, j2, b, rfl, h1, h2⟩ := h.at hi
  refine opP_i (idxSl_ok (by omega) (by omega)) ?_
  exact load_at hO j2 h1 (v := .int .u8 xs[n]) (by simpa using h2) hk
theorem crc_More_spec {sum : Nat} (hO : St H Γ) (hv : RdB Γ v bs) (hb : ∀ x ∈ bs, 0 ≤ x ∧ x ≤ 255) (hl : bs.length ≤ 1000000000) (hs : sum < 4294967296) (hk : K (uint .u32 (crcMore sum bs)) H) : wCall P n_crc_More [uint .u32 sum, v] H K := by
  apply crc_More_ok; unfold crc_More
  refine opP_i (un_notU rfl hs) ?_
  refine opW_i hv.lenSl ?_
  have hsz : szU .u32 - 1 - sum = 4294967295 - sum := rfl
  refine crc_More_L0_ind (fun k l' H' => ∃ y : Nat, y ≤ bs.length ∧ k = bs.length - y ∧ l' = [.int .u32 0, uint .u32 ((bs.take y).foldl crcB (4294967295 - sum)), v, int bs.length, int y] ∧ H' = H) _ _ ?_ bs.length _ _ ⟨0, by omega, rfl, rfl, rfl⟩
  rintro k l' H' ⟨y, hy, rfl, rfl, rfl⟩
  unfold crc_More_L0
  try simp only [nth_zero, nth_succ]
  have hlt := crcF_lt (bs.take y) (4294967295 - sum) (by omega) fun x hx => hb x (List.mem_of_mem_take hx)
  repeat (first | refine oi ?_ | refine ow ?_ | refine wy ?_ | refine wn ?_ | refine wt ?_ | refine wf' ?_ | refine cy ?_ | refine cn ?_)
  refine wIf_dec (fun h => ?_) (fun h => ?_)
  · have hyl : y < bs.length := by omega
    have hx := hb _ (List.getElem_mem hyl)
    refine byte_at (n := y) hO hv rfl hyl ?_
    rw [uint_of hx.1]
    refine opW_i (cvU rfl) ?_
    rw [show bs[y].toNat % szU .u32 = bs[y].toNat from Nat.mod_eq_of_lt (show bs[y].toNat < 2 ^ 32 by omega)]
    refine opP_i (bin_xorU rfl hlt (show bs[y].toNat < 2 ^ 32 by omega)) ?_
    refine crc_step_spec (Nat.xor_lt_two_pow (n := 32) hlt (show bs[y].toNat < 2 ^ 32 by omega)) ?_
    repeat (first | refine oi ?_ | refine ow ?_ | refine wy ?_ | refine wn ?_ | refine wt ?_ | refine wf' ?_ | refine cy ?_ | refine cn ?_)
    refine ⟨_, by omega, y + 1, by omega, rfl, ?_, rfl⟩
    rw [List.take_succ_eq_append_getElem hyl, List.foldl_append]; rfl
  · have e : y = bs.length := by omega
    subst e
    repeat (first | refine oi ?_ | refine ow ?_ | refine wy ?_ | refine wn ?_ | refine wt ?_ | refine wf' ?_ | refine cy ?_ | refine cn ?_)
    refine opP_i (un_notU rfl hlt) ?_
    rw [List.take_length] 
    exact hk
theorem crc_Sum_spec {c jz q : Nat} {b : Bool} (hO : St H Γ) (hz : Γ[jz]? = some (q, ⟨[v], b⟩)) (hv : RdB Γ v bs) (hb : ∀ x ∈ bs, 0 ≤ x ∧ x ≤ 255) (hl : bs.length ≤ 1000000000) (hk : K (uint .u32 (crcMore 0 bs)) H) : wCall P n_crc_Sum [sl q 0 1 c] H K := by
  apply crc_Sum_ok; unfold crc_Sum
  repeat (first | refine oi ?_ | refine ow ?_ | refine wy ?_ | refine wn ?_ | refine wt ?_ | refine wf' ?_ | refine cy ?_ | refine cn ?_)
  refine crc_Sum_L0_ind (fun k l' H' => ∃ y : Nat, y ≤ 1 ∧ k = 1 - y ∧ l' = [.int .u32 0, uint .u32 (if y = 0 then 0 else crcMore 0 bs), sl q 0 1 c, int 1, int y] ∧ H' = H) _ _ ?_ 1 _ _ ⟨0, by omega, rfl, rfl, rfl⟩
  rintro k l' H' ⟨y, hy, rfl, rfl, rfl⟩
  unfold crc_Sum_L0
  try simp only [nth_zero, nth_succ]
  refine opP_i bin_lss ?_
  refine wIf_dec (fun h => ?_) (fun h => ?_)
  · have ey : y = 0 := by omega
    subst ey
    refine opP_i (idxSl_ok (by omega) (by omega)) ?_
    refine load_at hO jz hz rfl ?_
    refine crc_More_spec (sum := 0) hO hv hb hl (by omega) ?_
    repeat (first | refine oi ?_ | refine ow ?_ | refine wy ?_ | refine wn ?_ | refine wt ?_ | refine wf' ?_ | refine cy ?_ | refine cn ?_)
    exact ⟨_, Nat.zero_lt_one, 1, by omega, rfl, rfl, rfl⟩
  · have ey : y = 1 := by omega
    subst ey
    repeat (first | refine oi ?_ | refine ow ?_ | refine wy ?_ | refine wn ?_ | refine wt ?_ | refine wf' ?_ | refine cy ?_ | refine cn ?_)
    exact hk
theorem slice_both (h : RdB Γ v xs) {i n : Nat} (hn : i + n ≤ xs.length) {mx : Option Value} (hm : mx = none ∨ mx = some (int ((i + n : Nat) : Int))) : ∃ v', sliceSl 1 v (some (int i)) (some (int ((i + n : Nat) : Int))) mx = some v' ∧ Inh v xs v' ((xs.drop i).take n) := by
  have hb : ∀ len : Nat, i + n ≤ len → boundHi len (some (int ((i + n : Nat) : Int))) = some (i + n) := fun len hl => by
    show (match leB 0 ((i + n : Nat) : Int) with | true => (match Nat.ble ((i + n : Nat) : Int).toNat len with | true => some ((i + n : Nat) : Int).toNat | false => none) | false => none) = _
    rw [leB_eq, decide_eq_true (by omega)]
    simp only [Int.toNat_natCast]
    rw [Nat.ble_eq_true_of_le hl]
  have hlo : boundLo (i + n) (some (int (i : Int))) = some i := by
    show (match leB 0 (i : Int) with | true => (match Nat.ble (i : Int).toNat (i + n) with | true => some (i : Int).toNat | false => none) | false => none) = _
    rw [leB_eq, decide_eq_true (by omega)]
    simp only [Int.toNat_natCast]
    rw [Nat.ble_eq_true_of_le (by omega)]
  have hmx : ∃ f, maxOk (i + n) (some (int ((i + n : Nat) : Int))) mx = some f := by
    rcases hm with rfl | rfl
    · exact ⟨false, rfl⟩
    · refine ⟨true, ?_⟩
      show (match leB 0 ((i + n : Nat) : Int) with | true => (match Nat.beq ((i + n : Nat) : Int).toNat (i + n) with | true => some true | false => none) | false => none) = _
      rw [leB_eq, decide_eq_true (by omega)]
      simp only [Int.toNat_natCast, Nat.beq_refl]
  obtain ⟨f, hf⟩ := hmx
  rcases h with ⟨rfl, rfl⟩ | ⟨p, o, c, rfl, hc, _⟩
  · have h0 : i = 0 ∧ n = 0 := by simp at hn; omega
    obtain ⟨rfl, rfl⟩ := h0
    rcases hm with rfl | rfl <;> exact ⟨nilSl, rfl, .none⟩
  · have he : ∃ c', (c' = 2 ∨ c' = 3) ∧ sliceSl 1 (sl p o xs.length c) (some (int i)) (some (int ((i + n : Nat) : Int))) mx = some (sl p (o + i) n c') := by
      generalize int ((i + n : Nat) : Int) = hh at hb hf ⊢
      generalize int (i : Int) = ii at hlo ⊢
      rcases hc with rfl | rfl
      · refine ⟨cond f 3 2, by cases f <;> simp, ?_⟩
        simp [sliceSl, hb _ hn, hlo, hf, reslice]
      · refine ⟨cond (f || Nat.beq (i + n) xs.length) 3 2, by cases f || Nat.beq (i + n) xs.length <;> simp, ?_⟩
        simp [sliceSl, hb _ hn, hlo, hf, reslice]
    obtain ⟨c', hc', he⟩ := he
    refine ⟨_, he, fun Γ' h => ?_⟩
    rcases h with ⟨h, _⟩ | ⟨p', o', c'', heq, _, h⟩
    · cases h
    cases heq
    have hl : ((xs.drop i).take n).length = n := by rw [List.length_take, List.length_drop]; omega
    refine .inr ⟨p, o + i, c', by rw [hl], hc', ?_⟩
    rcases h with rfl | ⟨j, b, h1, h2⟩
    · exact .inl (by simp)
    · refine .inr ⟨j, b, h1, ?_⟩
      have := congrArg (fun l => (List.drop i l).take n) h2
      rw [List.drop_take, List.drop_drop, List.take_take, Nat.min_eq_left (by omega)] at this
      rw [hl, this, by8, by8, List.map_take, List.map_drop]
theorem keep_at {q o n c i : Nat} {cs : List Value} (hO : St H Γ) (hi : Γ[i]? = some (q, ⟨cs, true⟩)) (hn : 0 < n) (hk : K (sl q o n c) H) : opW (keepSl (sl q o n c) H) K := by
  refine opW_i ?_ hk
  have hb : Nat.beq n 0 = false := by
    cases hb : Nat.beq n 0 with
    | false => rfl
    | true => have := Nat.eq_of_beq_eq_true hb; omega
  unfold keepSl
  simp only [hb, hO.at i hi (.inl rfl)]
  have : Heap.mayWrite H q ⟨cs, true⟩ = true := by unfold Heap.mayWrite; rw [hO.fl]; rfl
  rw [this]
noncomputable def sealB (kind : Nat) (seq : Nat) (body : List Int) : List Int :=
  (([66, 74] ++ [(kind : Int)] ++ leN 8 seq ++ leN 2 body.length) ++ body) ++ leN 4 (crcMore 0 (([66, 74] ++ [(kind : Int)] ++ leN 8 seq ++ leN 2 body.length) ++ body))
theorem leN_by (y n : Nat) : ∀ x ∈ leN y n, 0 ≤ x ∧ x ≤ 255 := by
  intro x hx
  obtain ⟨i, _, rfl⟩ := List.mem_map.1 hx
  have : n / 256 ^ i % 256 < 256 := Nat.mod_lt _ (by omega)
  omega
abbrev By (xs : List Int) : Prop := ∀ x ∈ xs, 0 ≤ x ∧ x ≤ 255
theorem By.app' {xs ys : List Int} (h : By xs) (h2 : By ys) : By (xs ++ ys) := fun x hx => by
  rcases List.mem_append.1 hx with hx | hx
  · exact h x hx
  · exact h2 x hx
theorem head_by {kind seq : Nat} {body : List Int} (hk : kind < 256) (hb : By body) : By (([66, 74] ++ [(kind : Int)] ++ leN 8 seq ++ leN 2 body.length) ++ body) := by
  refine By.app' (By.app' (By.app' (By.app' ?_ ?_) (leN_by _ _)) (leN_by _ _)) hb
  · intro x hx; simp at hx; omega
  · intro x hx; simp at hx; omega
theorem sealB_len {kind seq : Nat} {body : List Int} : (sealB kind seq body).length = 17 + body.length := by
  unfold sealB
  simp [leN_len]; omega
set_option maxHeartbeats 1000000 in
theorem sealed_spec {kind seq : Nat} {body : List Int} (hO : St H Γ) (hv : RdB Γ v body) (hb : By body) (hl : body.length ≤ 4000) (hk8 : kind < 256) (hs : seq < 2 ^ 64) (hk : MadeB Γ K (sealB kind seq body)) : wCall P n_frame_sealed [uint .u8 kind, uint .u64 seq, v] H K := by
  apply frame_sealed_ok; unfold frame_sealed
  refine newSl_at hO (bs46_2 _ _ _ _ _) ?_
  clear hO
  intro q H hO
  refine keep_at hO (i := Γ.length + 0) (at_r rfl) (by omega) ?_
  refine newSl_at hO (bs46_1 _ _ _) ?_
  clear hO
  intro q2 H hO
  refine append_new (ys := [(kind : Int)]) (xs := [66, 74]) (cs := by8 [66, 74]) (v := sl q 0 2 3) hO (.inr ⟨q, .inr ⟨rfl, rfl⟩, rfl, Nat.le_refl _, rfl⟩) (by simp) rfl (.inr rfl) ?_
  clear hO
  intro H v1 c1 hO h1
  refine Fixed_spec (size := 8) hO h1.rd.app' (by simp) hs (by omega) ?_
  clear hO
  intro H v2 c2 hO h2
  replace hO : St H (Γ ++ outB v2 c2) := St.mid hO
  refine opW_i hv.lenSl ?_
  refine opW_i (cvIU (by omega) (by omega)) ?_
  rw [Int.toNat_natCast]
  refine Fixed_spec (size := 2) hO h2.rd.app' (by simp [leN_len]) (by omega) (by omega) ?_
  clear hO
  intro H v3 c3 hO h3
  replace hO : St H (Γ ++ outB v3 c3) := St.mid hO
  obtain ⟨a, n, c, e⟩ := hv.shape
  refine newSl_at hO (show (buildSliceC P 65 1).f [(0, v)] H = some (sl H.next 0 1 3, H.push [v]) by rw [e]; exact bs65_1 _ _ _ _) ?_
  clear hO
  intro q3 H hO
  refine Raw_spec hO h3.rd.app'.app ⟨q3, 3, (Γ ++ outB v3 c3).length + 0, true, rfl, at_r rfl⟩ hv.app.app (by simp [leN_len]; omega) ?_
  clear hO
  intro H v4 c4 hO h4
  replace hO : St H (Γ ++ outB v4 c4) := St.mid (St.mid hO)
  obtain ⟨a, n, c, e4⟩ := h4.rd.shape
  refine newSl_at hO (show (buildSliceC P 65 1).f [(0, v4)] H = some (sl H.next 0 1 3, H.push [v4]) by rw [e4]; exact bs65_1 _ _ _ _) ?_
  clear hO
  intro q4 H hO
  have hby := head_by (seq := seq) hk8 hb
  have hln : (([66, 74] ++ [(kind : Int)] ++ leN 8 seq ++ leN 2 body.length) ++ body).length ≤ 5000 := by simp [leN_len]; omega
  refine crc_Sum_spec hO (jz := (Γ ++ outB v4 c4).length + 0) (at_r rfl) h4.rd.app'.app hby (by omega) ?_
  have hcl : crcMore 0 (([66, 74] ++ [(kind : Int)] ++ leN 8 seq ++ leN 2 body.length) ++ body) < 4294967296 := by unfold crcMore; omega
  refine opW_i (cvU rfl) ?_
  rw [show crcMore 0 (([66, 74] ++ [(kind : Int)] ++ leN 8 seq ++ leN 2 body.length) ++ body) % szU .u64 = crcMore 0 (([66, 74] ++ [(kind : Int)] ++ leN 8 seq ++ leN 2 body.length) ++ body) from Nat.mod_eq_of_lt (by show _ < 2 ^ 64; omega)]
  refine Fixed_spec (size := 4) hO h4.rd.app'.app (by omega) (by omega) (by omega) ?_
  clear hO
  intro H v5 c5 hO h5
  exact hk _ _ _ (St.mid (St.mid hO)) h5
end J
set_option linter.unusedVariables false
set_option linter.unusedSimpArgs false
set_option maxRecDepth 100000
namespace J
open Go Go.Ab
variable {H : Heap} {Γ Γ2 : List (Nat × Blk)} {K : Value → Heap → Prop} {v w x : Value} {xs ys bs : List Int} {j p : Nat} {e : Int}
theorem chunk1_spec [lp : LpC] {l q2 q3 : Nat} {I : Nat → Heap → Prop} (hI : ∀ k H, I k H → ∃ (Γ' : List (Nat × Blk)) (j2 j3 : Nat), St H Γ' ∧ Γ'[j2]? = some (q2, ⟨[v], true⟩) ∧ Γ'[j3]? = some (q3, ⟨[int 63], true⟩) ∧ RdB Γ' v bs) (hx : bs.length ≤ 1000000)
    (hr : ∀ k, 63 * k < bs.length → ∀ H vc, Inh v bs vc ((bs.drop (63 * k)).take 63) → I k H → wT P (.round l [vc] H) fun b H' => b = .bool true ∧ I (k + 1) H')
    (hO : I 0 H) (hk : ∀ H', I ((bs.length + 62) / 63) H' → K (.tuple [].toArray) H') : wCall P n_slices_Chunk_byte_byte_1 [yieldV l, ptr q2 0, ptr q3 0] H K := by
  apply slices_Chunk_byte_byte_1_ok; unfold slices_Chunk_byte_byte_1
  refine slices_Chunk_byte_byte_1_L0_ind (fun k l' H' => ∃ y : Nat, y ≤ (bs.length + 62) / 63 ∧ k = (bs.length + 62) / 63 - y ∧ l' = [yieldV l, ptr q2 0, ptr q3 0, int ((63 * y : Nat) : Int)] ∧ I y H') _ _ ?_ ((bs.length + 62) / 63) _ _ ⟨0, by omega, rfl, rfl, hO⟩
  clear hO
  rintro k l' H ⟨y, hy, rfl, rfl, hO⟩
  unfold slices_Chunk_byte_byte_1_L0
  try simp only [nth_zero, nth_succ]
  obtain ⟨Γ', j2, j3, hS, h2, h3, hv⟩ := hI y H hO
  refine load_at hS j2 h2 rfl ?_
  refine opW_i hv.lenSl ?_
  refine opP_i bin_lss ?_
  refine wIf_dec (fun h => ?_) (fun h => ?_)
  · have hyl : 63 * y < bs.length := by omega
    refine load_at hS j3 h3 rfl ?_
    refine load_at hS j2 h2 rfl ?_
    obtain ⟨v1, e1, r1⟩ := slice_lo hv (show 63 * y ≤ bs.length by omega)
    refine opP_i e1 ?_
    refine opW_i (r1 _ hv).lenSl ?_
    refine opW_i min_w ?_
    refine load_at hS j2 h2 rfl ?_
    have hm : min (63 : Int) ((bs.drop (63 * y)).length : Int) = ((min 63 (bs.length - 63 * y) : Nat) : Int) := by rw [List.length_drop]; omega
    rw [hm]
    have hn : 63 * y + min 63 (bs.length - 63 * y) ≤ bs.length := by omega
    refine opP_i (v := int ((63 * y + min 63 (bs.length - 63 * y) : Nat) : Int)) (by rw [bin_addi (by omega) (by omega)]; congr 2) ?_
    refine opP_i (v := int ((63 * y + min 63 (bs.length - 63 * y) : Nat) : Int)) (by rw [bin_addi (by omega) (by omega)]; congr 2) ?_
    obtain ⟨vc, e2, r2⟩ := slice_both hv hn (mx := some (int ((63 * y + min 63 (bs.length - 63 * y) : Nat) : Int))) (.inr rfl)
    refine opP_i e2 ?_
    have e3 : (bs.drop (63 * y)).take (min 63 (bs.length - 63 * y)) = (bs.drop (63 * y)).take 63 := by
      by_cases h5 : 63 ≤ bs.length - 63 * y
      · rw [Nat.min_eq_left h5]
      · rw [Nat.min_eq_right (by omega), List.take_of_length_le (by rw [List.length_drop]; omega), List.take_of_length_le (by rw [List.length_drop]; omega)]
    rw [e3] at r2
    refine yield_at (wT_mono (hr y hyl H vc r2 hO) ?_)
    rintro b2 H2 ⟨rfl, hO2⟩
    obtain ⟨Γ3, k2, k3, hS3, h23, h33, _⟩ := hI (y + 1) H2 hO2
    refine opP_i un_not ?_
    refine wIf_f rfl ?_
    refine load_at hS3 k3 h33 rfl ?_
    refine opP_i (v := int ((63 * (y + 1) : Nat) : Int)) (by rw [bin_addi (by omega) (by omega)]; congr 2) ?_
    exact ⟨_, by omega, y + 1, by omega, rfl, rfl, hO2⟩
  · have ey : y = (bs.length + 62) / 63 := by omega
    subst ey
    refine cond_yes rfl ?_
    exact hk _ hO
def padS (c : List Int) : List Int := c ++ (List.replicate (63 - c.length) 255 ++ [0])
def nCh (n : Nat) : Nat := (n + 62) / 63
def chunkS (b : List Int) : List (List Int) := (List.range (nCh b.length)).map fun k => padS ((b.drop (63 * k)).take 63)
def secC (l : List (List Int)) : List Value := l.flatMap by8
abbrev MadeS (Γ : List (Nat × Blk)) (K : Value → Heap → Prop) (l : List (List Int)) : Prop := ∀ (H' : Heap) (v' : Value), St H' (Γ ++ outB v' (secC l)) → Own 64 v' l.length (secC l) → K v' H'
theorem padS_len {c : List Int} (h : c.length ≤ 63) : (padS c).length = 64 := by simp [padS]; omega
theorem chunkS_len (b : List Int) : (chunkS b).length = nCh b.length := by simp [chunkS]
theorem chunkS_ok {b : List Int} : ∀ s ∈ chunkS b, s.length = 64 := by
  intro s hs
  obtain ⟨k, _, rfl⟩ := List.mem_map.1 hs
  exact padS_len (by rw [List.length_take]; omega)
theorem chunkS_take {b : List Int} {k : Nat} (h : k < nCh b.length) : (chunkS b).take (k + 1) = (chunkS b).take k ++ [padS ((b.drop (63 * k)).take 63)] := by
  rw [List.take_succ_eq_append_getElem (by rw [chunkS_len]; exact h)]
  congr 2
  simp [chunkS]
theorem set_pad {c : List Int} (h : c.length ≤ 63) : ((by8 blank).take 0 ++ (by8 c ++ (by8 blank).drop (0 + c.length))).set 63 (.int .u8 0) = by8 (padS c) := by
  have e : (by8 blank).drop (0 + c.length) = by8 (List.replicate (63 - c.length) 255) ++ [.int .u8 255] := by
    simp only [by8, blank, List.map_replicate, List.drop_replicate, Nat.zero_add]
    rw [show 64 - c.length = (63 - c.length) + 1 by omega, List.replicate_succ']
  rw [e, List.take_zero, List.nil_append, ← List.append_assoc, List.set_append_right _ _ (by simp; omega)]
  have e2 : 63 - (by8 c ++ by8 (List.replicate (63 - c.length) 255)).length = 0 := by simp; omega
  rw [e2]
  simp [padS, by8]
theorem bsSec' (g : Nat → Int) (H : Heap) : (buildSliceC P 143 1).f [(0, sec ((List.range 64).map g))] H = some (sl H.next 0 1 129, H.push (by8 ((List.range 64).map g))) := by kernel_rfl
theorem bsSec {s : List Int} (h : s.length = 64) (H : Heap) : (buildSliceC P 143 1).f [(0, sec s)] H = some (sl H.next 0 1 129, H.push (by8 s)) := by
  obtain ⟨g, rfl⟩ := sec_fn h
  exact bsSec' g H
theorem zcSs : zc P 143 = [nilSl] := by kernel_rfl
theorem put_body [lp : LpC] {q7 n : Nat} {vo vc : Value} {cs : List Value} {c : List Int} {X : Heap → Prop} (hO : St H ((Γ2 ++ [(q7, ⟨[vo], true⟩)]) ++ outB vo cs)) (hv : Own 64 vo n cs) (hc : RdB Γ2 vc c) (hl : c.length ≤ 63) (hn : n ≤ 1000000)
    (hk : ∀ H' vo', St H' ((Γ2 ++ [(q7, ⟨[vo'], true⟩)]) ++ outB vo' (cs ++ by8 (padS c))) → Own 64 vo' (n + 1) (cs ++ by8 (padS c)) → X H') :
    wCall P n_flash_Blank [] H fun t19 H2 =>
    wNew (zc P 121) H2 fun t9 H4 =>
    opW (storeTo 64 t9 t19 H4) fun u H6 =>
    opP (sliceArr 64 1 t9 none none none H6) fun t20 =>
    opW (copyTo 1 t20 vc H6) fun t22 H9 =>
    opP (idxPtr 64 1 t9 (.int .i64 63)) fun t23 =>
    opW (storeTo 1 t23 (.int .u8 0) H9) fun u_1 H12 =>
    opW (loadOne (ptr q7 0) H12) fun t24 H14 =>
    opW (loadAgg 64 t9 H14) fun t25 H16 =>
    opW ((buildSliceC P 143 1).f [(0, t25)] H16) fun t26 H18 =>
    opW (appendWith 64 64 t24 t26 H18) fun t27 H20 =>
    opW (storeTo 1 (ptr q7 0) t27 H20) fun u_2 H22 => X H22 := by
  refine Blank_spec hO ?_
  clear hO
  intro H hO
  rw [zcS]
  refine new_at hO ?_
  clear hO
  intro p9 H hO
  refine storeAll_at hO (((Γ2 ++ [(q7, (⟨[vo], true⟩ : Blk))]) ++ outB vo cs).length + 0) (at_r rfl) (by rw [by8_len]; rfl) (by rw [by8_len]; rfl) (by8_one _) ?_
  clear hO
  intro H hO
  replace hO : St H (((Γ2 ++ [(q7, ⟨[vo], true⟩)]) ++ outB vo cs) ++ [(p9, ⟨by8 blank, true⟩)]) := hO.set_r
  refine opP_i (slice_arr (n := 64) hO (((Γ2 ++ [(q7, (⟨[vo], true⟩ : Blk))]) ++ outB vo cs).length + 0) (at_r rfl) (by omega) (by show _ ≤ (by8 blank).length; rw [by8_len]; decide)) ?_
  refine copy_by hO (i := ((Γ2 ++ [(q7, (⟨[vo], true⟩ : Blk))]) ++ outB vo cs).length + 0) (at_r rfl) hc.app.app.app (by omega) (by rw [by8_len]; decide) ?_
  clear hO
  intro H hO
  replace hO : St H (((Γ2 ++ [(q7, ⟨[vo], true⟩)]) ++ outB vo cs) ++ [(p9, ⟨(by8 blank).take 0 ++ (by8 c ++ (by8 blank).drop (0 + c.length)), true⟩)]) := hO.set_r
  refine opP_i (idxPtr_ok (by omega) (by omega)) ?_
  have hlen : ((by8 blank).take 0 ++ (by8 c ++ (by8 blank).drop (0 + c.length))).length = 64 := by
    rw [List.take_zero, List.nil_append, List.length_append, List.length_drop, by8_len, by8_len, show blank.length = 64 from rfl]; omega
  refine store1_at hO (((Γ2 ++ [(q7, (⟨[vo], true⟩ : Blk))]) ++ outB vo cs).length + 0) (at_r rfl) rfl (by rw [hlen]; decide) (set_pad hl) ?_
  clear hO
  intro H hO
  replace hO : St H (((Γ2 ++ [(q7, ⟨[vo], true⟩)]) ++ outB vo cs) ++ [(p9, ⟨by8 (padS c), true⟩)]) := hO.set_r
  have hpl := padS_len hl
  refine load_at hO (Γ2.length + 0) (at_l (at_l (at_r rfl))) rfl ?_
  refine loadAll_at hO (((Γ2 ++ [(q7, (⟨[vo], true⟩ : Blk))]) ++ outB vo cs).length + 0) (at_r rfl) (by rw [by8_len]; exact hpl) (by omega) ?_
  replace hO := hO.left
  refine newSl_at hO (bsSec hpl _) ?_
  clear hO
  intro q H hO
  refine append_elem hO hv (by rw [by8_len]; exact hpl) (by omega) (by8_one _) (by omega) (by omega) ?_
  clear hO
  intro vo' H hO hv'
  obtain ⟨a1, n1, c1, e1⟩ : ∃ a1 n1 c1, vo' = .slice a1 n1 c1 := by rcases hv' with ⟨_, h, _⟩ | ⟨p, rfl | rfl, _⟩; omega; exact ⟨_, _, _, rfl⟩; exact ⟨_, _, _, rfl⟩
  refine store1_at hO (Γ2.length + 0) (at_l (at_r rfl)) (by rw [e1]; rfl) (show 0 < 1 by omega) rfl ?_
  clear hO
  intro H hO
  rw [List.set_append_left _ _ (by simp), Go.Ab.set_r] at hO
  exact hk H vo' hO hv'
noncomputable def fPut (kind seq : Nat) (body : List Int) : List (List Int) := if 4000 < body.length then [] else chunkS (sealB kind seq body)
set_option maxHeartbeats 2000000 in
theorem Put_spec {kind seq : Nat} {body : List Int} (hO : St H Γ) (hv : RdB Γ v body) (hb : By body) (hk8 : kind < 256) (hs : seq < 2 ^ 64) (hk : MadeS Γ K (fPut kind seq body)) : wCall P n_frame_Put [uint .u8 kind, uint .u64 seq, v] H K := by
  apply frame_Put_ok; unfold frame_Put
  refine opW_i hv.lenSl ?_
  refine opP_i bin_gtr ?_
  unfold fPut at hk
  refine wIf_dec (fun h => ?_) (fun h => ?_)
  · rw [if_pos (by omega)] at hk
    refine hk H nilSl ?_ (.inl ⟨rfl, rfl, rfl⟩)
    show St H (Γ ++ [])
    rw [List.append_nil]; exact hO
  rw [if_neg (by omega)] at hk
  rw [zcSs]
  refine new_at hO ?_
  clear hO
  intro q7 H hO
  refine sealed_spec hO hv.app hb (by omega) hk8 hs ?_
  clear hO
  have hsl := sealB_len (kind := kind) (seq := seq) (body := body)
  generalize sealB kind seq body = bs at *
  intro H v16 c16 hO h16
  replace hO := hO.rot
  apply slices_Chunk_byte_byte_ok
  unfold slices_Chunk_byte_byte
  refine new_at hO ?_
  clear hO
  intro q2 H hO
  refine new_at hO ?_
  clear hO
  intro q3 H9 hO
  obtain ⟨a1, n1, c1, e1⟩ := RdB.shape h16.rd
  have hc1 : cellsL v16 = [v16] := by rw [e1]; rfl
  rw [hc1] at hO
  refine load_at hO ((((Γ ++ outB v16 c16) ++ [(q7, (⟨[nilSl], true⟩ : Blk))]) ++ [(q2, (⟨[v16], true⟩ : Blk))]).length + 0) (at_r rfl) rfl ?_
  refine opP_i bin_lss ?_
  refine wIf_f rfl ?_
  have hO2 : St H9 ((((Γ ++ outB v16 c16) ++ [(q2, ⟨[v16], true⟩), (q3, ⟨[int 63], true⟩)]) ++ [(q7, ⟨[nilSl], true⟩)]) ++ outB nilSl (secC ((chunkS bs).take 0))) := by
    show St H9 ((((Γ ++ outB v16 c16) ++ [(q2, ⟨[v16], true⟩), (q3, ⟨[int 63], true⟩)]) ++ [(q7, ⟨[nilSl], true⟩)]) ++ [])
    rw [List.append_nil]
    have h5 : St H9 (((Γ ++ outB v16 c16) ++ [(q7, ⟨[nilSl], true⟩)]) ++ [(q2, ⟨[v16], true⟩), (q3, ⟨[int 63], true⟩)]) := by
      rw [List.append_assoc (_ ++ [(q7, _)])] at hO; exact hO
    exact h5.rot
  have r2 : ∀ Δ, RdB (((Γ ++ outB v16 c16) ++ [(q2, (⟨[v16], true⟩ : Blk)), (q3, ⟨[int 63], true⟩)]) ++ Δ) v16 bs := fun Δ => h16.rd.app'.app.app
  refine range_at (L := lp0) hO2 (f := n_slices_Chunk_byte_byte_1) (args := [yieldV (Nat.succ H9.next), ptr q2 0, ptr q3 0]) rfl ?_
  intro T hT hag H0 hO0
  generalize hL : lpc (Nat.succ H9.next) _ lp0 = L at hO0
  refine chunk1_spec (lp := L) (l := Nat.succ H9.next) (v := v16) (bs := bs) (I := fun k H' => ∃ vo, @St L H' ((((Γ ++ outB v16 c16) ++ [(q2, ⟨[v16], true⟩), (q3, ⟨[int 63], true⟩)]) ++ [(q7, ⟨[vo], true⟩)]) ++ outB vo (secC ((chunkS bs).take k))) ∧ Own 64 vo (min k (nCh bs.length)) (secC ((chunkS bs).take k))) ?_ (by omega) ?_ ⟨nilSl, hO0, .inl ⟨rfl, by omega, rfl⟩⟩ ?_
  · rintro k H' ⟨vo, h1, h2⟩
    exact ⟨_, _, _, h1, at_l (at_l (at_r (k := 0) rfl)), at_l (at_l (at_r (k := 1) rfl)), by rw [List.append_assoc]; exact r2 _⟩
  · rintro k hkl H vc hvc ⟨vo, hOm, hvo⟩
    subst hL
    have hkn : k < nCh bs.length := by unfold nCh; omega
    have hl63 : ((bs.drop (63 * k)).take 63).length ≤ 63 := by rw [List.length_take]; omega
    refine round_at (n := 29) hOm hT hag rfl (by decide) ?_
    rw [frame_Put_R0_eq]
    unfold frame_Put_R0
    refine wBegin_at hOm ?_
    intro H2 hO2
    rw [Nat.min_eq_left (by omega)] at hvo
    refine put_body (lp := lpc (Nat.succ H9.next) _ lp0) hO2 hvo (hvc _ (by have := r2 []; rw [List.append_nil] at this; exact this)) hl63 (by have : nCh bs.length ≤ bs.length + 62 := Nat.div_le_self _ _; omega) ?_
    intro H3 vo' hO3 hvo'
    have e4 : secC ((chunkS bs).take k) ++ by8 (padS ((bs.drop (63 * k)).take 63)) = secC ((chunkS bs).take (k + 1)) := by
      rw [chunkS_take hkn]; simp [secC]
    rw [e4] at hO3 hvo'
    refine wEnd_at hO3 ?_
    intro H4 hO4
    refine ⟨rfl, vo', hO4, ?_⟩
    rw [Nat.min_eq_left (by omega)]
    exact hvo'
  · rintro H2 ⟨vo, hO2, hvo⟩
    subst hL
    refine ⟨.ready, _, by simp, hO2, ?_⟩
    intro H3 hO3
    show opW _ _
    have e5 : (chunkS bs).take ((bs.length + 62) / 63) = chunkS bs := List.take_of_length_le (by rw [chunkS_len]; exact Nat.le_refl _)
    rw [e5] at hO3 hvo
    refine load_at hO3 (((Γ ++ outB v16 c16) ++ [(q2, (⟨[v16], true⟩ : Blk)), (q3, ⟨[int 63], true⟩)]).length + 0) (at_l (at_r rfl)) rfl ?_
    refine hk _ vo ?_ ?_
    · exact hO3.sub (List.Sublist.append (by rw [List.append_assoc, List.append_assoc]; exact List.sublist_append_left _ _) (List.Sublist.refl _))
    · rw [chunkS_len]
      have e6 : min ((bs.length + 62) / 63) (nCh bs.length) = nCh bs.length := Nat.min_self _
      rw [e6] at hvo
      exact hvo
end J
set_option linter.unusedVariables false
set_option linter.unusedSimpArgs false
set_option maxRecDepth 100000
namespace J
open Go Go.Ab
variable {H : Heap} {Γ Γ2 : List (Nat × Blk)} {K : Value → Heap → Prop} {v w x : Value} {xs ys bs : List Int} {j p : Nat} {e : Int} {ss tt : List (List Int)}
abbrev S64 (ss : List (List Int)) : Prop := ∀ s ∈ ss, s.length = 64
def RdS (Γ : List (Nat × Blk)) (v : Value) (ss : List (List Int)) : Prop :=
  (v = nilSl ∧ ss = []) ∨ ∃ p o c, v = sl p o ss.length c ∧ (c = 128 ∨ c = 129) ∧ (ss = [] ∨ ∃ (j : Nat) (b : Blk), Γ[j]? = some (p, b) ∧ (b.cells.drop o).take (ss.length * 64) = secC ss)
theorem RdS.lenSl (h : RdS Γ v ss) : Ab.lenSl v H = some (int ss.length, H) := by
  rcases h with ⟨rfl, rfl⟩ | ⟨p, o, c, rfl, _⟩ <;> rfl
theorem RdS.app {Δ : List (Nat × Blk)} (h : RdS Γ v ss) : RdS (Γ ++ Δ) v ss := by
  rcases h with h | ⟨p, o, c, h1, h2, h3 | ⟨j, b, h3, h4⟩⟩
  · exact .inl h
  · exact .inr ⟨p, o, c, h1, h2, .inl h3⟩
  · exact .inr ⟨p, o, c, h1, h2, .inr ⟨j, b, at_l h3, h4⟩⟩
theorem RdS.app' {Δ : List (Nat × Blk)} (h : RdS Δ v ss) : RdS (Γ ++ Δ) v ss := by
  rcases h with h | ⟨p, o, c, h1, h2, h3 | ⟨j, b, h3, h4⟩⟩
  · exact .inl h
  · exact .inr ⟨p, o, c, h1, h2, .inl h3⟩
  · exact .inr ⟨p, o, c, h1, h2, .inr ⟨Γ.length + j, b, at_r h3, h4⟩⟩
theorem RdS.own (h : Own 64 v ss.length (secC ss)) : RdS (outB v (secC ss)) v ss := by
  rcases h with ⟨rfl, h0, _⟩ | ⟨p, rfl | rfl, hl⟩
  · exact .inl ⟨rfl, List.length_eq_zero_iff.1 h0⟩
  · exact .inr ⟨p, 0, 128, rfl, .inl rfl, .inr ⟨0, ⟨secC ss, true⟩, rfl, by rw [List.drop_zero]; exact List.take_of_length_le (Nat.le_of_eq hl)⟩⟩
  · exact .inr ⟨p, 0, 129, rfl, .inr rfl, .inr ⟨0, ⟨secC ss, true⟩, rfl, by rw [List.drop_zero]; exact List.take_of_length_le (Nat.le_of_eq hl)⟩⟩
theorem secC_len (h : S64 ss) : (secC ss).length = ss.length * 64 := flat_len fun s hs => by rw [by8_len]; exact h s hs
theorem RdS.at (hs : S64 ss) (h : RdS Γ v ss) {i : Nat} (hi : i < ss.length) : ∃ (p o c j : Nat) (b : Blk), v = sl p o ss.length c ∧ Γ[j]? = some (p, b) ∧ (b.cells.drop (o + i * 64)).take 64 = by8 ss[i] ∧ o + i * 64 + 64 ≤ b.cells.length := by
  rcases h with ⟨rfl, rfl⟩ | ⟨p, o, c, rfl, _, rfl | ⟨j, b, h3, h4⟩⟩
  · simp at hi
  · simp at hi
  · refine ⟨p, o, c, j, b, rfl, h3, ?_, ?_⟩
    · have h5 := flat_at (f := by8) (o := 0) (m := 64) (fun s hs' => by rw [by8_len]; exact hs s hs') hi (by omega)
      have h6 : (((b.cells.drop o).take (ss.length * 64)).drop (i * 64 + 0)).take 64 = (((secC ss)).drop (i * 64 + 0)).take 64 := by rw [h4]
      rw [List.drop_take, List.drop_drop, List.take_take, Nat.min_eq_left (by omega), Nat.add_zero] at h6
      rw [h6]
      rw [Nat.add_zero] at h5
      refine h5.trans ?_
      rw [List.drop_zero]
      exact List.take_of_length_le (by rw [by8_len, hs _ (List.getElem_mem hi)]; exact Nat.le_refl _)
    · have h7 := congrArg List.length h4
      rw [List.length_take, List.length_drop, secC_len hs] at h7
      omega
abbrev InhS (v : Value) (ss : List (List Int)) (v' : Value) (tt : List (List Int)) : Prop := ∀ Γ' : List (Nat × Blk), RdS Γ' v ss → RdS Γ' v' tt
theorem InhS.none {v : Value} {ss : List (List Int)} : InhS v ss nilSl [] := fun _ _ => .inl ⟨rfl, rfl⟩
theorem hi_some {len n : Nat} (h : n ≤ len) : boundHi len (some (int (n : Int))) = some n := by
  show (match leB 0 (n : Int) with | true => (match Nat.ble (n : Int).toNat len with | true => some (n : Int).toNat | false => none) | false => none) = _
  rw [leB_eq, decide_eq_true (by omega)]
  simp only [Int.toNat_natCast]
  rw [Nat.ble_eq_true_of_le h]
theorem lo_some {len n : Nat} (h : n ≤ len) : boundLo len (some (int (n : Int))) = some n := by
  show (match leB 0 (n : Int) with | true => (match Nat.ble (n : Int).toNat len with | true => some (n : Int).toNat | false => none) | false => none) = _
  rw [leB_eq, decide_eq_true (by omega)]
  simp only [Int.toNat_natCast]
  rw [Nat.ble_eq_true_of_le h]
theorem sliceS_hi (hs : S64 ss) (h : RdS Γ v ss) {n : Nat} (hn : n ≤ ss.length) : ∃ v', sliceSl 64 v none (some (int n)) none = some v' ∧ InhS v ss v' (ss.take n) := by
  rcases h with ⟨rfl, rfl⟩ | ⟨p, o, c, rfl, hc, _⟩
  · have : n = 0 := by simpa using hn
    subst this
    exact ⟨nilSl, rfl, .none⟩
  · have he : ∃ c', (c' = 128 ∨ c' = 129) ∧ sliceSl 64 (sl p o ss.length c) none (some (int n)) none = some (sl p o n c') := by
      have hh := hi_some hn
      generalize int (n : Int) = hv at hh ⊢
      rcases hc with rfl | rfl
      · exact ⟨128, .inl rfl, by simp [sliceSl, hh, boundLo, maxOk, reslice]⟩
      · exact ⟨cond (Nat.beq n ss.length) 129 128, by cases Nat.beq n ss.length <;> simp, by simp [sliceSl, hh, boundLo, maxOk, reslice]⟩
    obtain ⟨c', hc', he⟩ := he
    refine ⟨_, he, fun Γ' h => ?_⟩
    rcases h with ⟨h, _⟩ | ⟨p', o', c'', heq, _, h⟩
    · cases h
    cases heq
    have hl : (ss.take n).length = n := by rw [List.length_take]; omega
    refine .inr ⟨p, o, c', by rw [hl], hc', ?_⟩
    rcases h with rfl | ⟨j, b, h1, h2⟩
    · exact .inl (by simp)
    · refine .inr ⟨j, b, h1, ?_⟩
      have h3 : ((b.cells.drop o).take (ss.length * 64)).take (n * 64) = (secC ss).take (n * 64) := by rw [h2]
      rw [List.take_take, Nat.min_eq_left (by omega)] at h3
      rw [hl, h3]
      have h4 : secC ss = secC (ss.take n) ++ secC (ss.drop n) := by unfold secC; rw [← List.flatMap_append, List.take_append_drop]
      rw [h4, List.take_left' (by rw [secC_len (fun s h => hs s (List.mem_of_mem_take h)), hl])]
theorem sliceS_lo (hs : S64 ss) (h : RdS Γ v ss) {n : Nat} (hn : n ≤ ss.length) : ∃ v', sliceSl 64 v (some (int n)) none none = some v' ∧ InhS v ss v' (ss.drop n) := by
  rcases h with ⟨rfl, rfl⟩ | ⟨p, o, c, rfl, hc, _⟩
  · have : n = 0 := by simpa using hn
    subst this
    exact ⟨nilSl, rfl, .none⟩
  · have he : ∃ c', (c' = 128 ∨ c' = 129) ∧ sliceSl 64 (sl p o ss.length c) (some (int n)) none none = some (sl p (o + n * 64) (ss.length - n) c') := by
      have hh := lo_some hn
      generalize int (n : Int) = hv at hh ⊢
      rcases hc with rfl | rfl
      · exact ⟨128, .inl rfl, by simp [sliceSl, hh, boundHi, maxOk, reslice]⟩
      · exact ⟨129, .inr rfl, by simp [sliceSl, hh, boundHi, maxOk, reslice]⟩
    obtain ⟨c', hc', he⟩ := he
    refine ⟨_, he, fun Γ' h => ?_⟩
    rcases h with ⟨h, _⟩ | ⟨p', o', c'', heq, _, h⟩
    · cases h
    cases heq
    have hl : (ss.drop n).length = ss.length - n := by rw [List.length_drop]
    refine .inr ⟨p, o + n * 64, c', by rw [hl], hc', ?_⟩
    rcases h with rfl | ⟨j, b, h1, h2⟩
    · exact .inl (by simp)
    · refine .inr ⟨j, b, h1, ?_⟩
      have h3 : ((b.cells.drop o).take (ss.length * 64)).drop (n * 64) = (secC ss).drop (n * 64) := by rw [h2]
      rw [List.drop_take, List.drop_drop] at h3
      rw [hl, Nat.sub_mul, h3]
      have h4 : secC ss = secC (ss.take n) ++ secC (ss.drop n) := by unfold secC; rw [← List.flatMap_append, List.take_append_drop]
      rw [h4, List.drop_left' (by rw [secC_len (fun s h => hs s (List.mem_of_mem_take h)), List.length_take, Nat.min_eq_left hn])]
theorem secAt {K : Value → Heap → Prop} (hO : St H Γ) (hs : S64 ss) (h : RdS Γ v ss) {i : Nat} (hi : i < ss.length) (hk : K (sec ss[i]) H) : opP (idxSl 64 v (int i)) fun t => opW (loadAgg 64 t H) K := by
  obtain ⟨p, o, c, j, b, rfl, h1, h2, h3⟩ := RdS.at hs h hi
  refine opP_i (idxSl_ok (by omega) (by omega)) ?_
  rw [Int.toNat_natCast]
  exact loadAgg_at hO j h1 h2 (by rw [by8_len]; exact hs _ (List.getElem_mem hi)) (by omega) hk
theorem Equal_spec (hO : St H Γ) (hs : S64 ss) (ht : S64 tt) (h1 : RdS Γ v ss) (h2 : RdS Γ w tt) (hl : ss.length ≤ 1000000) (hk : K (.bool (decide (ss = tt))) H) : wCall P n_slices_Equal_api_Sector_api_Sector [v, w] H K := by
  apply slices_Equal_api_Sector_api_Sector_ok; unfold slices_Equal_api_Sector_api_Sector
  refine opW_i h1.lenSl ?_
  refine opW_i h2.lenSl ?_
  refine opP_i bin_neq ?_
  refine wIf_dec (fun h => ?_) (fun h => ?_)
  · rw [decide_eq_false (fun h' => by subst h'; omega)] at hk
    exact hk
  have hlt : tt.length = ss.length := by omega
  refine opW_i h1.lenSl ?_
  refine slices_Equal_api_Sector_api_Sector_L0_ind (fun k l' H' => ∃ y : Nat, y ≤ ss.length ∧ k = ss.length - y ∧ l' = [v, w, .bool false, int ss.length, int y] ∧ H' = H ∧ ss.take y = tt.take y) _ _ ?_ ss.length _ _ ⟨0, by omega, rfl, rfl, rfl, rfl⟩
  rintro k l' H' ⟨y, hy, rfl, rfl, rfl, he⟩
  unfold slices_Equal_api_Sector_api_Sector_L0
  try simp only [nth_zero, nth_succ]
  refine opP_i bin_lss ?_
  refine wIf_dec (fun h3 => ?_) (fun h3 => ?_)
  · have hyl : y < ss.length := by omega
    refine secAt hO hs h1 hyl ?_
    refine secAt hO ht h2 (i := y) (by omega) ?_
    refine opP_i (neS _ (hs _ (List.getElem_mem _)) (ht _ (List.getElem_mem _))) ?_
    refine wIf_dec (fun h4 => ?_) (fun h4 => ?_)
    · rw [decide_eq_false (fun h' => by subst h'; exact h4 rfl)] at hk
      exact hk
    · repeat (first | refine oi ?_ | refine ow ?_ | refine wy ?_ | refine wn ?_ | refine wt ?_ | refine wf' ?_ | refine cy ?_ | refine cn ?_)
      refine ⟨_, by omega, y + 1, by omega, rfl, rfl, rfl, ?_⟩
      rw [List.take_succ_eq_append_getElem hyl, List.take_succ_eq_append_getElem (by omega), he, Decidable.not_not.1 h4]
  · have ey : y = ss.length := by omega
    subst ey
    rw [List.take_length, ← hlt, List.take_length] at he
    refine cond_yes rfl ?_
    rw [decide_eq_true he] at hk
    exact hk
def plainS (ss : List (List Int)) : List Int := ss.flatMap fun s => s.take 63
theorem plainS_len (h : S64 ss) : (plainS ss).length = ss.length * 63 := by
  induction ss with
  | nil => rfl
  | cons s ss ih =>
    show (s.take 63 ++ plainS ss).length = _
    rw [List.length_append, ih (fun x hx => h x (List.mem_cons_of_mem _ hx)), List.length_take, h s List.mem_cons_self, List.length_cons]; omega
theorem plain_spec (hO : St H Γ) (hs : S64 ss) (h1 : RdS Γ v ss) (hl : ss.length ≤ 1000000) (hk : MadeB Γ K (plainS ss)) : wCall P n_frame_plain [v] H K := by
  apply frame_plain_ok; unfold frame_plain
  refine opW_i h1.lenSl ?_
  refine frame_plain_L0_ind (fun k l' H' => ∃ (y : Nat) (v' : Value) (cs' : List Value), y ≤ ss.length ∧ k = ss.length - y ∧ l' = [nilSl, v', v, int ss.length, int y] ∧ St H' (Γ ++ outB v' cs') ∧ OwnB v' (plainS (ss.take y)) cs') _ _ ?_ ss.length _ _ ⟨0, nilSl, [], by omega, rfl, rfl, by show St H (Γ ++ []); rw [List.append_nil]; exact hO, .nil⟩
  clear hO
  rintro k l' H ⟨y, v', cs', hy, rfl, rfl, hO, hv'⟩
  unfold frame_plain_L0
  try simp only [nth_zero, nth_succ]
  refine opP_i bin_lss ?_
  refine wIf_dec (fun h3 => ?_) (fun h3 => ?_)
  · have hyl : y < ss.length := by omega
    have hsl := hs _ (List.getElem_mem hyl)
    refine secAt hO hs h1.app hyl ?_
    rw [zcS]
    refine new_at hO ?_
    clear hO
    intro p5 H hO
    refine storeAll_at hO ((Γ ++ outB v' cs').length + 0) (at_r rfl) (by rw [by8_len]; rfl) (by rw [by8_len]; exact hsl) (by8_one _) ?_
    clear hO
    intro H hO
    replace hO := St.rot hO.set_r
    replace hO : St H ((Γ ++ [(p5, ⟨by8 ss[y], true⟩)]) ++ outB v' cs') := hO
    obtain ⟨c1, e1, hc1⟩ := slice_arrh (n := 64) (p := p5) (o := 0) (h := 63) (b := ⟨by8 ss[y], true⟩) hO (Γ.length + 0) (at_l (at_r rfl)) (by omega) (by show _ ≤ (by8 ss[y]).length; rw [by8_len, hsl]; decide) (by omega) (by omega)
    refine opP_i e1 ?_
    have hr : RdB (Γ ++ [(p5, (⟨by8 ss[y], true⟩ : Blk))]) (sl p5 0 (63 : Int).toNat c1) (ss[y].take 63) := by
      refine .inr ⟨p5, 0, c1, ?_, hc1, .inr ⟨Γ.length + 0, ⟨by8 ss[y], true⟩, at_r rfl, ?_⟩⟩
      · rw [List.length_take, hsl]; rfl
      · rw [List.drop_zero, List.length_take, hsl]
        simp [by8, List.map_take]
    have hpl := plainS_len (ss := ss.take y) (fun s h => hs s (List.mem_of_mem_take h))
    rw [List.length_take, Nat.min_eq_left hy] at hpl
    refine append_by hO hv' hr (by rw [hpl, List.length_take]; omega) ?_
    clear hO
    intro H v2 c2 hO h2
    repeat (first | refine oi ?_ | refine ow ?_ | refine wy ?_ | refine wn ?_ | refine wt ?_ | refine wf' ?_ | refine cy ?_ | refine cn ?_)
    refine ⟨_, by omega, y + 1, v2, c2, by omega, rfl, rfl, St.mid hO, ?_⟩
    rw [List.take_succ_eq_append_getElem hyl]
    unfold plainS
    rw [List.flatMap_append]
    show OwnB v2 (_ ++ (ss[y].take 63 ++ [])) c2
    rw [List.append_nil]
    exact h2
  · have ey : y = ss.length := by omega
    subst ey
    rw [List.take_length] at hv'
    refine cond_yes rfl ?_
    exact hk _ _ _ hO hv'
def fSize (n : Int) : Nat := if n < 0 ∨ 4000 < n then 0 else (n.toNat + 79) / 63
theorem bin_quo63 {a : Nat} (h : a ≤ 1000000) : (binC P .quo 3 true).f (int a) (.int .i64 63) = some (int ((a / 63 : Nat) : Int)) := by
  rw [binC_int _ _ rfl]
  show (match eqB (63 : Int) 0 with | true => none | false => some (Value.int .i64 (wrapA .i64 ((a : Int).tdiv 63)))) = _
  rw [eqB_eq, decide_eq_false (by omega)]
  show some (Value.int .i64 (wrapA .i64 ((a / 63 : Nat) : Int))) = _
  rw [wrap_i (by omega) (by omega)]
theorem Size_spec {n : Int} (hk : K (int (fSize n)) H) : wCall P n_frame_Size [int n] H K := by
  apply frame_Size_ok; unfold frame_Size
  unfold fSize at hk
  refine join_with (fun l' H' => l' = [int n] ∧ H' = H ∧ ¬ (n < 0 ∨ 4000 < n)) ?_ ?_
  · refine opP_i bin_lss ?_
    refine wIf_dec (fun h => ?_) (fun h => ?_)
    · rw [if_pos (.inl h)] at hk
      rw [decide_eq_true h]
      repeat (first | refine oi ?_ | refine ow ?_ | refine wy ?_ | refine wn ?_ | refine wt ?_ | refine wf' ?_ | refine cy ?_ | refine cn ?_)
      exact hk
    · rw [decide_eq_false h]
      refine opP_i bin_gtr ?_
      refine opP_i pick_false ?_
      refine wIf_dec (fun h2 => ?_) (fun h2 => ?_)
      · rw [if_pos (.inr h2)] at hk
        exact hk
      · exact ⟨rfl, rfl, by omega⟩
  rintro l' H' ⟨rfl, rfl, h⟩
  try simp only [nth_zero, nth_succ]
  rw [if_neg h] at hk
  have e1 : 13 + n + 4 + 63 - 1 = ((n.toNat + 79 : Nat) : Int) := by omega
  refine opP_i (bin_addi (by omega) (by omega)) ?_
  refine opP_i (bin_addi (by omega) (by omega)) ?_
  refine opP_i (bin_addi (by omega) (by omega)) ?_
  refine opP_i (bin_subi (by omega) (by omega)) ?_
  rw [e1]
  refine opP_i (bin_quo63 (by omega)) ?_
  exact hk
end J
set_option linter.unusedVariables false
set_option linter.unusedSimpArgs false
set_option maxRecDepth 100000
namespace J
open Go Go.Ab
variable {H : Heap} {Γ Γ2 : List (Nat × Blk)} {K : Value → Heap → Prop} {v w x : Value} {xs ys bs : List Int} {j p : Nat} {e : Int} {ss tt : List (List Int)}
theorem tk_ok {n : Nat} (h : n ≤ xs.length) : tkB xs 0 n = xs.take n ∧ tkR xs 0 n = xs.drop n ∧ tkE xs 0 n = 0 := ⟨if_pos ⟨rfl, h⟩, if_pos ⟨rfl, h⟩, if_pos ⟨rfl, h⟩⟩
theorem u8_inj {a b : Int} (ha : 0 ≤ a ∧ a ≤ 255) (hb : 0 ≤ b ∧ b ≤ 255) (h : UInt8.ofNat a.toNat = UInt8.ofNat b.toNat) : a = b := by
  have := congrArg UInt8.toNat h
  rw [UInt8.toNat_ofNat', UInt8.toNat_ofNat', Nat.mod_eq_of_lt (by omega), Nat.mod_eq_of_lt (by omega)] at this
  omega
theorem u8s_inj : ∀ {xs ys : List Int}, By xs → By ys → (xs.map fun n => UInt8.ofNat n.toNat) = (ys.map fun n => UInt8.ofNat n.toNat) → xs = ys
  | [], [], _, _, _ => rfl
  | [], _ :: _, _, _, h => by simp at h
  | _ :: _, [], _, _, h => by simp at h
  | x :: xs, y :: ys, hx, hy, h => by
    simp only [List.map_cons, List.cons.injEq] at h
    rw [u8_inj (hx x List.mem_cons_self) (hy y List.mem_cons_self) h.1, u8s_inj (fun z hz => hx z (List.mem_cons_of_mem _ hz)) (fun z hz => hy z (List.mem_cons_of_mem _ hz)) h.2]
theorem str_eqB (t : TypeId) (c : Bool) (hx : By xs) (hy : By ys) : (binC P .eql t c).f (strB xs) (strB ys) = some (.bool (decide (xs = ys))) := by
  rw [str_eq]
  by_cases h : xs = ys
  · subst h; simp
  · rw [decide_eq_false h]
    have : ¬ ((xs.map fun n => UInt8.ofNat n.toNat) = (ys.map fun n => UInt8.ofNat n.toNat)) := fun h' => h (u8s_inj hx hy h')
    congr 2
    simpa using this
theorem str_neB (t : TypeId) (c : Bool) (hx : By xs) (hy : By ys) : (binC P .neq t c).f (strB xs) (strB ys) = some (.bool (decide (xs ≠ ys))) := by
  have h1 : (binC P .neq t c).f (strB xs) (strB ys) = some (.bool (!((xs.map fun n => UInt8.ofNat n.toNat) == ys.map fun n => UInt8.ofNat n.toNat))) := rfl
  have h2 := str_eqB t c hx hy
  rw [str_eq] at h2
  have h3 := Option.some.inj h2
  simp only [Value.bool.injEq] at h3
  rw [h1, h3]
  simp
theorem bj_eq : (Value.string ⟨#[66, 74]⟩) = strB [66, 74] := rfl
def hKind (s : List Int) : Nat := leV ((s.drop 2).take 1)
def hSeq (s : List Int) : Nat := leV ((s.drop 3).take 8)
def hLen (s : List Int) : Nat := leV ((s.drop 11).take 2)
def fBody (ss : List (List Int)) (s : List Int) : List Int := ((plainS (ss.take (fSize (hLen s)))).drop 13).take (hLen s)
def fBad (ss : List (List Int)) (s : List Int) : Prop := s.take 2 ≠ [66, 74] ∨ fSize (hLen s) = 0 ∨ ss.length < fSize (hLen s)
instance (ss : List (List Int)) (s : List Int) : Decidable (fBad ss s) := by unfold fBad; infer_instance
structure Fr where
  kind : Nat
  seq : Nat
  body : List Int
  many : Nat
def fr0 : Fr := ⟨0, 0, [], 0⟩
open Classical in
noncomputable def fGet (ss : List (List Int)) : Fr := match ss with
  | [] => fr0
  | s :: r => if fBad (s :: r) s then fr0 else if fPut (hKind s) (hSeq s) (fBody (s :: r) s) ≠ (s :: r).take (fSize (hLen s)) then fr0 else ⟨hKind s, hSeq s, fBody (s :: r) s, fSize (hLen s)⟩
theorem fPut_ok {kind seq : Nat} {body : List Int} : S64 (fPut kind seq body) := by
  unfold fPut
  split
  · intro s hs; cases hs
  · exact chunkS_ok
theorem leV_take_lt {xs : List Int} (hb : By xs) (n : Nat) : leV (xs.take n) < 256 ^ n := by
  have := leV_lt (xs.take n) fun x hx => hb x (List.mem_of_mem_take hx)
  exact Nat.lt_of_lt_of_le this (Nat.pow_le_pow_right (by omega) (by rw [List.length_take]; omega))
theorem hLen_lt {s : List Int} (hb : By s) : hLen s < 65536 := leV_take_lt (fun x hx => hb x (List.mem_of_mem_drop hx)) 2
theorem hKind_lt {s : List Int} (hb : By s) : hKind s < 256 := leV_take_lt (fun x hx => hb x (List.mem_of_mem_drop hx)) 1
theorem hSeq_lt {s : List Int} (hb : By s) : hSeq s < 2 ^ 64 := leV_take_lt (fun x hx => hb x (List.mem_of_mem_drop hx)) 8
abbrev MadeF (Γ : List (Nat × Blk)) (K : Value → Heap → Prop) (f : Fr) : Prop := ∀ (H' : Heap) (v' : Value) (cs' : List Value), St H' (Γ ++ outB v' cs') → OwnB v' f.body cs' → K (.tuple [uint .u8 f.kind, uint .u64 f.seq, v', int f.many].toArray) H'
theorem MadeF.none (h : MadeF Γ K fr0) (hO : St H Γ) : K (.tuple [.int .u8 0, .int .u64 0, nilSl, .int .i64 0].toArray) H := h H nilSl [] (by show St H (Γ ++ []); rw [List.append_nil]; exact hO) OwnB.nil
theorem secBy (hO : St H Γ) (hs : S64 ss) (h : RdS Γ v ss) (hp : 0 < ss.length) {K : Value → Prop} (hk : ∀ v', RdB Γ v' ss[0] → K v') : opP (idxSl 64 v (.int .i64 0)) fun t => opP (sliceArr 64 1 t none none none H) K := by
  obtain ⟨p, o, c, j, b, rfl, h1, h2, h3⟩ := RdS.at hs h hp
  refine opP_i (idxSl_ok (by omega) (by omega)) ?_
  have e : o + (0 : Int).toNat * 64 = o + 0 * 64 := rfl
  rw [e]
  refine opP_i (slice_arr (n := 64) hO j h1 (by omega) h3) ?_
  have hl := hs _ (List.getElem_mem hp)
  exact hk _ (.inr ⟨p, o + 0 * 64, 3, by rw [hl], .inr rfl, .inr ⟨j, b, h1, by rw [hl]; exact h2⟩⟩)
set_option maxHeartbeats 4000000 in
theorem Get_spec (hO : St H Γ) (hs : S64 ss) (hb : ∀ s ∈ ss, By s) (h1 : RdS Γ v ss) (hl : ss.length ≤ 1000000) (hk : MadeF Γ K (fGet ss)) : wCall P n_frame_Get [v] H K := by
  apply frame_Get_ok; unfold frame_Get
  refine opW_i h1.lenSl ?_
  refine opP_i bin_eql ?_
  refine wIf_dec (fun h => ?_) (fun h => ?_)
  · have : ss = [] := List.length_eq_zero_iff.1 (by omega)
    subst this
    exact MadeF.none hk hO
  match ss, h with
  | [], h => exact absurd rfl h
  | s :: r, h =>
  have hsl : s.length = 64 := hs s List.mem_cons_self
  have hsb : By s := hb s List.mem_cons_self
  have kl := hKind_lt hsb
  have nl := hLen_lt hsb
  have ql := hSeq_lt hsb
  refine secBy hO hs h1 (by simp) ?_
  intro vb hvb
  have hvb : RdB Γ vb s := hvb
  refine New_spec hO hvb ?_
  intro H pr hO
  obtain ⟨a1, a2, a3⟩ := tk_ok (xs := s) (n := 2) (by omega)
  refine rRaw_spec (n := 2) hO (at_r (k := 0) rfl) hvb.app (by omega) (by omega) ?_
  rw [a1, a2]
  clear hO
  intro H v2 vm cm hO i2 hm
  unfold rdN at hO
  rw [a3, Go.Ab.set_r] at hO
  replace hO : St H ((Γ ++ outB vm cm) ++ [(pr, rdr v2 0)]) := St.rot hO
  have hm' := hm.rd.app' (Γ := Γ)
  generalize hG : Γ ++ outB vm cm = G at hO hm'
  have hGs : ∀ {H : Heap} {Δ : List (Nat × Blk)}, St H (G ++ Δ) → St H (Γ ++ Δ) := fun h => by rw [← hG] at h; exact St.mid h
  have h1 : RdS G v (s :: r) := by rw [← hG]; exact h1.app
  have r2 : RdB G v2 (s.drop 2) := i2 _ (by rw [← hG]; exact hvb.app)
  clear hvb i2 hG
  have l2 : (s.drop 2).length = 62 := by rw [List.length_drop]; omega
  obtain ⟨b1, b2, b3⟩ := tk_ok (xs := s.drop 2) (n := 1) (by omega)
  refine rFixed_spec (k := 1) (by omega) hO (at_r (k := 0) rfl) r2.app (fun x hx => hsb x (List.mem_of_mem_drop hx)) ?_
  rw [b1, b2, b3]
  clear hO
  intro H v3 hO i3
  replace hO : St H (G ++ [(pr, rdr v3 0)]) := hO.set_r
  have r3 := i3 _ r2
  rw [List.drop_drop] at r3
  refine opW_i (cvU rfl) ?_
  rw [show leV ((s.drop 2).take 1) % szU .u8 = hKind s from Nat.mod_eq_of_lt kl]
  have l3 : (s.drop (2 + 1)).length = 61 := by rw [List.length_drop]; omega
  obtain ⟨c1, c2, c3⟩ := tk_ok (xs := s.drop (2 + 1)) (n := 8) (by omega)
  refine rFixed_spec (k := 8) (by omega) hO (at_r (k := 0) rfl) r3.app (fun x hx => hsb x (List.mem_of_mem_drop hx)) ?_
  rw [c1, c2, c3]
  clear hO
  intro H v4 hO i4
  replace hO : St H (G ++ [(pr, rdr v4 0)]) := hO.set_r
  have r4 := i4 _ r3
  rw [List.drop_drop] at r4
  have l4 : (s.drop (2 + 1 + 8)).length = 53 := by rw [List.length_drop]; omega
  obtain ⟨d1, d2, d3⟩ := tk_ok (xs := s.drop (2 + 1 + 8)) (n := 2) (by omega)
  refine rFixed_spec (k := 2) (by omega) hO (at_r (k := 0) rfl) r4.app (fun x hx => hsb x (List.mem_of_mem_drop hx)) ?_
  rw [d1, d2, d3]
  clear hO
  intro H v5 hO i5
  replace hO : St H (G ++ [(pr, rdr v5 0)]) := hO.set_r
  replace hO := hO.left
  have en : leV ((s.drop (2 + 1 + 8)).take 2) = hLen s := rfl
  have eq : leV ((s.drop (2 + 1)).take 8) = hSeq s := rfl
  rw [en, eq]
  refine opW_i (cvInt_i (k := .u64) (by omega) (by omega)) ?_
  refine Size_spec ?_
  refine join_with (fun l' H' => l' = [v, uint .u8 (hKind s), uint .u64 (hSeq s), int (hLen s), int (fSize (hLen s)), .bool (decide (fBad (s :: r) s))] ∧ H' = H) ?_ ?_
  · refine opW_i (hm'.str hO) ?_
    rw [bj_eq]
    refine opP_i (str_neB _ _ (fun x hx => hsb x (List.mem_of_mem_take hx)) (fun x hx => by simp at hx; omega)) ?_
    refine wIf_dec (fun h => ?_) (fun h => ?_)
    · rw [decide_eq_true h]
      repeat (first | refine oi ?_ | refine ow ?_ | refine wy ?_ | refine wn ?_ | refine wt ?_ | refine wf' ?_ | refine cy ?_ | refine cn ?_)
      exact ⟨by rw [decide_eq_true (show fBad (s :: r) s from .inl h)], rfl⟩
    rw [decide_eq_false h]
    refine opP_i bin_eql ?_
    refine opP_i pick_false ?_
    refine wIf_dec (fun h2 => ?_) (fun h2 => ?_)
    · rw [decide_eq_true h2]
      repeat (first | refine oi ?_ | refine ow ?_ | refine wy ?_ | refine wn ?_ | refine wt ?_ | refine wf' ?_ | refine cy ?_ | refine cn ?_)
      exact ⟨by rw [decide_eq_true (show fBad (s :: r) s from .inr (.inl (by omega)))], rfl⟩
    rw [decide_eq_false h2]
    refine opW_i h1.lenSl ?_
    refine opP_i bin_gtr ?_
    refine opP_i pick_false ?_
    refine ⟨?_, rfl⟩
    rw [decide_eq_decide.2 (show (((s :: r).length : Nat) : Int) < ((fSize (hLen s) : Nat) : Int) ↔ fBad (s :: r) s from ⟨fun h3 => .inr (.inr (by omega)), fun h3 => ?_⟩)]
    rcases h3 with h3 | h3 | h3
    · exact absurd h3 h
    · exact absurd (by omega) h2
    · omega
  rintro l' H' ⟨rfl, rfl⟩
  try simp only [nth_zero, nth_succ]
  unfold fGet at hk
  refine wIf_dec (fun h2 => ?_) (fun h2 => ?_)
  · simp only [if_pos h2] at hk
    have h5 : St H' (Γ ++ []) := hGs (by rw [List.append_nil]; exact hO)
    rw [List.append_nil] at h5
    exact MadeF.none hk h5
  simp only [if_neg h2] at hk
  have hmany : 0 < fSize (hLen s) ∧ fSize (hLen s) ≤ (s :: r).length ∧ s.take 2 = [66, 74] := by
    unfold fBad at h2
    refine ⟨by omega, by omega, ?_⟩
    exact Decidable.not_not.1 fun h' => h2 (.inl h')
  have hn4 : hLen s ≤ 4000 ∧ fSize (hLen s) = (hLen s + 79) / 63 := by
    have h0 := hmany.1
    unfold fSize at h0 ⊢
    split at h0
    · omega
    · rename_i h6
      rw [if_neg h6]
      exact ⟨by omega, by rw [Int.toNat_natCast]⟩
  obtain ⟨vs, e1, i6⟩ := sliceS_hi hs h1 hmany.2.1
  have hs6 : S64 ((s :: r).take (fSize (hLen s))) := fun x hx => hs x (List.mem_of_mem_take hx)
  have hl6 : ((s :: r).take (fSize (hLen s))).length = fSize (hLen s) := by rw [List.length_take]; omega
  refine opP_i e1 ?_
  refine plain_spec hO hs6 (i6 _ h1) (by omega) ?_
  clear hO
  intro H vp cp hO hp
  have hp' := hp.rd.app' (Γ := G)
  have h1 := h1.app (Δ := outB vp cp)
  generalize hG2 : G ++ outB vp cp = G2 at hO hp' h1
  have hGs2 : ∀ {H : Heap} {Δ : List (Nat × Blk)}, St H (G2 ++ Δ) → St H (Γ ++ Δ) := fun h => by rw [← hG2] at h; exact hGs (St.mid h)
  have hpl := plainS_len hs6
  rw [hl6] at hpl
  have hbp : By (plainS ((s :: r).take (fSize (hLen s)))) := by
    intro x hx
    obtain ⟨y, hy, hx⟩ := List.mem_flatMap.1 hx
    exact hb y (List.mem_of_mem_take hy) x (List.mem_of_mem_take hx)
  refine opP_i (v := int ((13 + hLen s : Nat) : Int)) (by rw [bin_addi (by omega) (by omega)]; congr 2) ?_
  obtain ⟨vy, e2, i7⟩ := slice_both (i := 13) (n := hLen s) hp' (by rw [hpl]; omega) (mx := none) (.inl rfl)
  refine opP_i e2 ?_
  have r7 : RdB G2 vy (fBody (s :: r) s) := i7 _ hp'
  have hby : By (fBody (s :: r) s) := fun x hx => hbp x (List.mem_of_mem_drop (List.mem_of_mem_take hx))
  refine Put_spec hO r7 hby kl ql ?_
  clear hO
  intro H vq hO hq
  have hq' := (RdS.own hq).app' (Γ := G2)
  obtain ⟨vs2, e3, i8⟩ := sliceS_hi hs (h1.app (Δ := outB vq (secC (fPut (hKind s) (hSeq s) (fBody (s :: r) s))))) hmany.2.1
  refine opP_i e3 ?_
  have hln : (fBody (s :: r) s).length ≤ 4000 := by
    show ((List.drop _ _).take _).length ≤ _
    rw [List.length_take]; omega
  refine Equal_spec hO fPut_ok hs6 hq' (i8 _ h1.app) (by
    unfold fPut
    split
    · simp
    · rw [chunkS_len, sealB_len]; unfold nCh; omega) ?_
  refine opP_i un_not ?_
  by_cases h9 : fPut (hKind s) (hSeq s) (fBody (s :: r) s) = (s :: r).take (fSize (hLen s))
  · rw [decide_eq_true h9]
    rw [if_neg (show ¬ (fPut (hKind s) (hSeq s) (fBody (s :: r) s) ≠ (s :: r).take (fSize (hLen s))) from fun h0 => h0 h9)] at hk
    refine wIf_f rfl ?_
    refine Clone_spec hO r7.app (by omega) ?_
    clear hO
    intro H vz cz hO hz
    exact hk H vz cz (hGs2 (St.mid hO)) hz
  · rw [decide_eq_false h9]
    simp only [if_pos h9] at hk
    refine wIf_t rfl ?_
    have h5 := hGs2 hO
    exact MadeF.none hk h5.left
end J
set_option linter.unusedVariables false
set_option linter.unusedSimpArgs false
set_option maxRecDepth 100000
namespace J
open Go Go.Ab
variable {H : Heap} {Γ Γ2 : List (Nat × Blk)} {K : Value → Heap → Prop} {v w x : Value} {xs ys bs : List Int} {j p : Nat} {e : Int} {ss tt : List (List Int)}
variable {L : Mloc} {m : Mp} {part pos : Int} {s : List Int}
def Mp.secs (m : Mp) (part : Int) : List (List Int) := (List.range (m.size part)).map fun (y : Nat) => (m.read part y).1
theorem secs_len : (m.secs part).length = m.size part := by simp [Mp.secs]
theorem secs_ok (ok : m.Ok) : S64 (m.secs part) := by
  intro s hs
  obtain ⟨y, _, rfl⟩ := List.mem_map.1 hs
  exact Mp.read_len ok
theorem secs_take {y : Nat} (h : y < m.size part) : (m.secs part).take (y + 1) = (m.secs part).take y ++ [(m.read part y).1] := by
  rw [List.take_succ_eq_append_getElem (by rw [secs_len]; exact h)]
  congr 2
  simp [Mp.secs]
theorem size_le (ok : m.Ok) : m.size part ≤ 4096 := by
  unfold Mp.size
  split
  · rename_i h
    have := ok.s _ (Mp.span_mem h)
    have := ok.d.n
    omega
  · omega
theorem sectors_spec (ok : m.Ok) (hO : St H (Γ ++ MW L m)) (hk : ∀ H' v', St H' ((Γ ++ outB v' (secC (m.secs part))) ++ MW L m) → Own 64 v' (m.secs part).length (secC (m.secs part)) → K v' H') : wCall P n_journal_sectors [ptr L.pm 0, int part] H K := by
  apply journal_sectors_ok; unfold journal_sectors
  refine mSize_spec hO ?_
  have hsz := size_le ok (part := part)
  refine journal_sectors_L0_ind (fun k l' H' => ∃ (y : Nat) (v' : Value), y ≤ m.size part ∧ k = m.size part - y ∧ l' = [ptr L.pm 0, int part, nilSl, v', int (m.size part), int y] ∧ St H' ((Γ ++ outB v' (secC ((m.secs part).take y))) ++ MW L m) ∧ Own 64 v' y (secC ((m.secs part).take y))) _ _ ?_ (m.size part) _ _ ⟨0, nilSl, by omega, rfl, rfl, by show St H ((Γ ++ []) ++ _); rw [List.append_nil]; exact hO, .inl ⟨rfl, rfl, rfl⟩⟩
  clear hO
  rintro k l' H ⟨y, v', hy, rfl, rfl, hO, hv⟩
  unfold journal_sectors_L0
  try simp only [nth_zero, nth_succ]
  refine opP_i bin_lss ?_
  refine wIf_dec (fun h => ?_) (fun h => ?_)
  · have hyl : y < m.size part := by omega
    refine mRead_spec ok hO ?_
    clear hO
    intro H hO
    have hl := Mp.read_len ok (part := part) (pos := (y : Int))
    refine opP_i ext0 ?_
    refine opP_i ext1 ?_
    rw [zcS]
    refine new_at hO ?_
    clear hO
    intro p7 H hO
    refine storeAll_at hO (((Γ ++ outB v' (secC ((m.secs part).take y))) ++ MW L m).length + 0) (at_r rfl) (by rw [by8_len]; rfl) (by rw [by8_len]; exact hl) (by8_one _) ?_
    clear hO
    intro H hO
    replace hO := hO.set_r
    refine loadAll_at hO (((Γ ++ outB v' (secC ((m.secs part).take y))) ++ MW L m).length + 0) (at_r rfl) (by rw [by8_len]; exact hl) (by omega) ?_
    replace hO := hO.left.rot
    refine newSl_at hO (bsSec hl _) ?_
    clear hO
    intro q H hO
    refine append_elem hO hv (by rw [by8_len]; exact hl) (by omega) (by8_one _) (by omega) (by omega) ?_
    clear hO
    intro v2 H hO hv2
    have e4 : secC ((m.secs part).take y) ++ by8 (m.read part y).1 = secC ((m.secs part).take (y + 1)) := by
      rw [secs_take hyl]; simp [secC]
    rw [e4] at hO hv2
    repeat (first | refine oi ?_ | refine ow ?_ | refine wy ?_ | refine wn ?_ | refine wt ?_ | refine wf' ?_ | refine cy ?_ | refine cn ?_)
    exact ⟨_, by omega, y + 1, v2, by omega, rfl, rfl, hO.rot, hv2⟩
  · have ey : y = m.size part := by omega
    subst ey
    have e5 : (m.secs part).take (m.size part) = m.secs part := List.take_of_length_le (by rw [secs_len]; exact Nat.le_refl _)
    rw [e5] at hO hv
    refine cond_yes rfl ?_
    exact hk _ _ hO (by rw [secs_len]; exact hv)
structure Row where
  bodies : List (List Int)
  first : Nat
  last : Nat
def row0 : Row := ⟨[], 0, 0⟩
def stStop (want : Nat) (f : Fr) (out : Row) : Prop := f.many = 0 ∨ f.kind ≠ want ∨ (want = 2 ∧ (f.seq = 0 ∨ f.seq - 1 ≠ out.last))
instance (want : Nat) (f : Fr) (out : Row) : Decidable (stStop want f out) := by unfold stStop; infer_instance
def stNext (want : Nat) (f : Fr) (out : Row) : Row := ⟨out.bodies ++ [f.body], if want = 1 then f.seq else out.first, f.seq⟩
noncomputable def standsGo : Nat → Nat → List (List Int) → Row → Row
  | 0, _, _, out => out
  | n + 1, want, ss, out => if stStop want (fGet ss) out then out else standsGo n 2 (ss.drop (fGet ss).many) (stNext want (fGet ss) out)
noncomputable def fStands (ss : List (List Int)) : Row := standsGo (ss.length + 1) 1 ss row0
def RdBs (Γ : List (Nat × Blk)) (vs : List Value) (bs : List (List Int)) : Prop := vs.length = bs.length ∧ ∀ i (h : i < vs.length) (h' : i < bs.length), RdB Γ vs[i] bs[i]
theorem RdBs.app {vs : List Value} {bs : List (List Int)} {Δ : List (Nat × Blk)} (h : RdBs Γ vs bs) : RdBs (Γ ++ Δ) vs bs := ⟨h.1, fun i h1 h2 => (h.2 i h1 h2).app⟩
theorem RdBs.app' {vs : List Value} {bs : List (List Int)} {Δ : List (Nat × Blk)} (h : RdBs Δ vs bs) : RdBs (Γ ++ Δ) vs bs := ⟨h.1, fun i h1 h2 => (h.2 i h1 h2).app'⟩
theorem RdBs.snoc {vs : List Value} {bs : List (List Int)} {v : Value} {b : List Int} (h : RdBs Γ vs bs) (hv : RdB Γ v b) : RdBs Γ (vs ++ [v]) (bs ++ [b]) := by
  refine ⟨by simp [h.1], fun i h1 h2 => ?_⟩
  by_cases hi : i < vs.length
  · rw [List.getElem_append_left hi, List.getElem_append_left (by have := h.1; omega)]
    exact h.2 i hi _
  · have e : i = vs.length := by simp at h1; omega
    subst e
    rw [List.getElem_append_right (Nat.le_refl _), List.getElem_append_right (by rw [h.1]; exact Nat.le_refl _)]
    simp only [Nat.sub_self, h.1, List.getElem_cons_zero]
    exact hv
theorem RdBs.mono {vs : List Value} {bs : List (List Int)} (h : RdBs Γ vs bs) (hm : ∀ v b, RdB Γ v b → RdB Γ2 v b) : RdBs Γ2 vs bs := ⟨h.1, fun i h1 h2 => hm _ _ (h.2 i h1 h2)⟩
def rowV (vb : Value) (r : Row) : List Value := [vb, uint .u64 r.first, uint .u64 r.last]
theorem zcRow : zc P 110 = rowV nilSl row0 := by kernel_rfl
theorem fGet_many (h : (fGet ss).many ≠ 0) : (fGet ss).many ≤ ss.length := by
  revert h
  unfold fGet
  match ss with
  | [] => intro h; exact absurd rfl h
  | s :: r =>
    simp only
    split
    · intro h; exact absurd rfl h
    · rename_i h2
      split
      · intro h; exact absurd rfl h
      · intro _
        show fSize (hLen s) ≤ _
        unfold fBad at h2
        omega
theorem fGet_seq (hb : ∀ s ∈ ss, By s) : (fGet ss).seq < 2 ^ 64 ∧ (fGet ss).kind < 256 := by
  unfold fGet
  match ss with
  | [] => decide
  | s :: r =>
    simp only
    have hsb := hb s List.mem_cons_self
    split
    · decide
    · split
      · decide
      · exact ⟨hSeq_lt hsb, hKind_lt hsb⟩
theorem bin_subU64 {t : TypeId} {c : Bool} {a b : Nat} (h : b ≤ a) (ha : a < 2 ^ 64) : (binC P .sub t c).f (uint .u64 a) (uint .u64 b) = some (uint .u64 (a - b)) := by
  rw [show (uint .u64 a) = Value.int .u64 (a : Int) from rfl, show (uint .u64 b) = Value.int .u64 (b : Int) from rfl, bin_sub]
  have e : (a : Int) - (b : Int) = ((a - b : Nat) : Int) := by omega
  rw [e, wrap_u rfl, Nat.mod_eq_of_lt (show a - b < szU .u64 by show a - b < 2 ^ 64; omega)]
theorem bs_row (v : Value) (hv : ∃ a n c, v = .slice a n c) (H : Heap) : (buildSliceC P 65 1).f [(0, v)] H = some (sl H.next 0 1 3, H.push [v]) := by
  obtain ⟨a, n, c, rfl⟩ := hv
  exact bs65_1 _ _ _ _
end J
set_option linter.unusedVariables false
set_option linter.unusedSimpArgs false
set_option maxRecDepth 100000
namespace J
open Go Go.Ab
variable {H : Heap} {Γ Γ2 : List (Nat × Blk)} {K : Value → Heap → Prop} {v w x : Value} {xs ys bs : List Int} {j p : Nat} {e : Int} {ss tt : List (List Int)}
variable {L : Mloc} {m : Mp} {part pos : Int} {s : List Int}
theorem St.rev3 {A B C : List (Nat × Blk)} (h : St H (((Γ ++ A) ++ B) ++ C)) : St H (((Γ ++ C) ++ B) ++ A) := h.perm (by
  simp only [List.append_assoc]
  refine List.Perm.append_left Γ ?_
  refine List.perm_append_comm.trans ?_
  rw [List.append_assoc, ← List.append_assoc, ← List.append_assoc]
  exact List.Perm.append_right A List.perm_append_comm)
set_option maxHeartbeats 4000000 in
theorem stands_loop {B : List (Nat × Blk)} {p4 p5 : Nat} {vs : Value} {Qx : Nat → List Value → Heap → Prop} {Qr : List Value → Heap → Prop} (hs : S64 ss) (hb : ∀ s ∈ ss, By s) (hl : ss.length ≤ 100000) (hvs : RdS B vs ss)
    (hO : St H (B ++ [(p4, ⟨rowV nilSl row0, true⟩), (p5, ⟨rowV nilSl row0, true⟩)]))
    (hk : ∀ H' Δ vb vals, St H' (((B ++ [(p4, ⟨rowV vb (fStands ss), true⟩), (p5, ⟨rowV vb (fStands ss), true⟩)]) ++ Δ) ++ outB vb vals) → Own 1 vb (fStands ss).bodies.length vals → RdBs Δ vals (fStands ss).bodies → Qr [ptr p4 0] H') :
    wLoop P true 60 journal_stands_P0 16 [ptr p4 0, ptr p5 0, vs, .int .u8 1] H Qx Qr := by
  refine journal_stands_L0_ind (fun k l' H' => ∃ (v' : Value) (tt : List (List Int)) (want : Nat) (out : Row) (Δ : List (Nat × Blk)) (vb : Value) (vals : List Value), l' = [ptr p4 0, ptr p5 0, v', uint .u8 want] ∧ (want = 1 ∨ want = 2) ∧ tt.length ≤ k ∧ S64 tt ∧ (∀ s ∈ tt, By s) ∧ RdS B v' tt ∧ tt.length ≤ 100000 ∧ out.bodies.length + tt.length ≤ 100000 ∧ out.first < 2 ^ 64 ∧ out.last < 2 ^ 64
      ∧ St H' (((B ++ [(p4, ⟨rowV nilSl row0, true⟩), (p5, ⟨rowV vb out, true⟩)]) ++ Δ) ++ outB vb vals) ∧ Own 1 vb out.bodies.length vals ∧ RdBs Δ vals out.bodies ∧ fStands ss = standsGo (k + 1) want tt out) _ _ ?_ ss.length _ _
    ⟨vs, ss, 1, row0, [], nilSl, [], rfl, .inl rfl, Nat.le_refl _, hs, hb, hvs, hl, by show 0 + ss.length ≤ _; omega, by decide, by decide, by
      show St H (((B ++ [(p4, ⟨rowV nilSl row0, true⟩), (p5, ⟨rowV nilSl row0, true⟩)]) ++ []) ++ [])
      rw [List.append_nil, List.append_nil]; exact hO, .inl ⟨rfl, rfl, rfl⟩, ⟨rfl, fun i h => absurd h (by simp)⟩, rfl⟩
  clear hO hvs hs hb hl
  rintro k l' H ⟨v', tt, want, out, Δ, vb, vals, rfl, hw, hk2, hs, hb, hvs, hl, hlb, hf, hla, hO, hv, hrd, hgo⟩
  unfold journal_stands_L0
  try simp only [nth_zero, nth_succ]
  refine Get_spec hO hs hb hvs.app.app.app (by omega) ?_
  clear hO
  intro H v2 c2 hO h2
  obtain ⟨hsq, hkd⟩ := fGet_seq hb
  have hmn : (fGet tt).many ≠ 0 → (fGet tt).many ≤ tt.length := fGet_many
  unfold standsGo at hgo
  generalize fGet tt = f at *
  refine opP_i (v := uint .u8 f.kind) rfl ?_
  refine opP_i (v := uint .u64 f.seq) rfl ?_
  refine opP_i (v := v2) rfl ?_
  refine opP_i (v := int f.many) rfl ?_
  have i5 : ∀ Δ2, (((B ++ [(p4, (⟨rowV nilSl row0, true⟩ : Blk)), (p5, ⟨rowV vb out, true⟩)]) ++ Δ) ++ Δ2)[B.length + 1]? = some (p5, ⟨rowV vb out, true⟩) := fun Δ2 => at_l (at_l (at_r rfl))
  refine join_with (fun l' H' => l' = [ptr p4 0, ptr p5 0, v', uint .u8 want, uint .u64 f.seq, v2, int f.many, .bool (decide (stStop want f out))] ∧ H' = H) ?_ ?_
  · refine opP_i bin_eql ?_
    refine wIf_dec (fun h => ?_) (fun h => ?_)
    · rw [decide_eq_true h]
      repeat (first | refine oi ?_ | refine ow ?_ | refine wy ?_ | refine wn ?_ | refine wt ?_ | refine wf' ?_ | refine cy ?_ | refine cn ?_)
      exact ⟨by rw [decide_eq_true (show stStop want f out from .inl (by omega))], rfl⟩
    rw [decide_eq_false h]
    refine opP_i (bin_neq (k := .u8)) ?_
    refine opP_i pick_false ?_
    refine wIf_dec (fun h2 => ?_) (fun h2 => ?_)
    · rw [decide_eq_true h2]
      repeat (first | refine oi ?_ | refine ow ?_ | refine wy ?_ | refine wn ?_ | refine wt ?_ | refine wf' ?_ | refine cy ?_ | refine cn ?_)
      exact ⟨by rw [decide_eq_true (show stStop want f out from .inr (.inl (by omega)))], rfl⟩
    rw [decide_eq_false h2]
    refine opP_i (bin_eql (k := .u8)) ?_
    refine wIf_dec (fun h3 => ?_) (fun h3 => ?_)
    · rw [decide_eq_true h3]
      refine opP_i (bin_eql (k := .u64)) ?_
      refine wIf_dec (fun h4 => ?_) (fun h4 => ?_)
      · rw [decide_eq_true h4]
        repeat (first | refine oi ?_ | refine ow ?_ | refine wy ?_ | refine wn ?_ | refine wt ?_ | refine wf' ?_ | refine cy ?_ | refine cn ?_)
        exact ⟨by rw [decide_eq_true (show stStop want f out from .inr (.inr ⟨by omega, .inl (by omega)⟩))], rfl⟩
      · rw [decide_eq_false h4]
        refine opP_i (bin_subU64 (b := 1) (by omega) hsq) ?_
        refine opP_i offPtr_ptr ?_
        refine load_at hO (B.length + 1) (at_l (i5 _)) rfl ?_
        refine opP_i (bin_neq (k := .u64)) ?_
        refine opP_i pick_false ?_
        refine opP_i pick_true ?_
        refine opP_i pick_false ?_
        refine ⟨?_, rfl⟩
        rw [decide_eq_decide.2 (show (((f.seq - 1 : Nat) : Int) ≠ (out.last : Int)) ↔ stStop want f out from ⟨fun h5 => .inr (.inr ⟨by omega, .inr (by omega)⟩), fun h5 => ?_⟩)]
        rcases h5 with h5 | h5 | ⟨_, h5 | h5⟩
        · omega
        · omega
        · omega
        · omega
    · rw [decide_eq_false h3]
      repeat (first | refine oi ?_ | refine ow ?_ | refine wy ?_ | refine wn ?_ | refine wt ?_ | refine wf' ?_ | refine cy ?_ | refine cn ?_)
      refine ⟨?_, rfl⟩
      rw [decide_eq_false (show ¬ stStop want f out from fun h5 => ?_)]
      rcases h5 with h5 | h5 | ⟨h5, _⟩
      · omega
      · omega
      · omega
  rintro l' H' ⟨rfl, rfl⟩
  try simp only [nth_zero, nth_succ]
  refine wIf_dec (fun hst => ?_) (fun hst => ?_)
  · rw [if_pos hst] at hgo
    refine loadAll_at hO (B.length + 1) (at_l (i5 _)) rfl (by omega) ?_
    replace hO := hO.left
    refine storeAll_at hO (B.length + 0) (at_l (at_l (at_r rfl))) rfl rfl (by
      rcases hv with ⟨rfl, _, _⟩ | ⟨p, rfl | rfl, _⟩ <;> rfl) ?_
    clear hO
    intro H hO
    rw [List.set_append_left _ _ (by simp), List.set_append_left _ _ (by simp), Go.Ab.set_r] at hO
    try simp only [nth_zero, nth_succ]
    refine hk H Δ vb vals ?_ (by rw [hgo]; exact hv) (by rw [hgo]; exact hrd)
    rw [hgo]
    exact hO
  · rw [if_neg hst] at hgo
    have hm0 : f.many ≠ 0 := fun h => hst (.inl h)
    have hml := hmn hm0
    have hkw : f.kind = want := Decidable.byContradiction fun h => hst (.inr (.inl h))
    obtain ⟨k', rfl⟩ : ∃ k', k = k' + 1 := ⟨k - 1, by omega⟩
    obtain ⟨a1, n1, c1, e1⟩ : ∃ a1 n1 c1, vb = .slice a1 n1 c1 := by rcases hv with ⟨rfl, _, _⟩ | ⟨p, rfl | rfl, _⟩ <;> exact ⟨_, _, _, rfl⟩
    refine join_with (fun l' H' => l' = [ptr p4 0, ptr p5 0, v', uint .u64 f.seq, v2, int f.many] ∧ St H' ((((B ++ [(p4, ⟨rowV nilSl row0, true⟩), (p5, ⟨rowV vb ⟨out.bodies, if want = 1 then f.seq else out.first, out.last⟩, true⟩)]) ++ Δ) ++ outB vb vals) ++ outB v2 c2)) ?_ ?_
    · refine opP_i (bin_eql (k := .u8)) ?_
      refine wIf_dec (fun h => ?_) (fun h => ?_)
      · refine opP_i offPtr_ptr ?_
        refine store1_at hO (B.length + 1) (at_l (i5 _)) rfl (show 1 < 3 by omega) (show _ = rowV vb ⟨out.bodies, f.seq, out.last⟩ from rfl) ?_
        clear hO
        intro H hO
        rw [List.set_append_left _ _ (by simp), List.set_append_left _ _ (by simp), List.set_append_left _ _ (by simp), Go.Ab.set_r] at hO
        rw [if_pos (by omega)]
        exact ⟨rfl, hO⟩
      · rw [if_neg (by omega)]
        exact ⟨rfl, hO⟩
    clear hO i5
    rintro l' H ⟨rfl, hO⟩
    try simp only [nth_zero, nth_succ]
    have i5 : ∀ (r : Row) (vb : Value) (Δ Δ2 : List (Nat × Blk)), (((B ++ [(p4, (⟨rowV nilSl row0, true⟩ : Blk)), (p5, ⟨rowV vb r, true⟩)]) ++ Δ) ++ Δ2)[B.length + 1]? = some (p5, ⟨rowV vb r, true⟩) := fun r vb Δ Δ2 => at_l (at_l (at_r rfl))
    refine opP_i offPtr_ptr ?_
    refine store1_at hO (B.length + 1) (at_l (i5 _ _ _ _)) rfl (show 2 < 3 by omega) (show _ = rowV vb ⟨out.bodies, if want = 1 then f.seq else out.first, f.seq⟩ from rfl) ?_
    clear hO
    intro H hO
    rw [List.set_append_left _ _ (by simp), List.set_append_left _ _ (by simp), List.set_append_left _ _ (by simp), Go.Ab.set_r] at hO
    replace hO : St H ((((B ++ [(p4, ⟨rowV nilSl row0, true⟩), (p5, ⟨rowV vb ⟨out.bodies, if want = 1 then f.seq else out.first, f.seq⟩, true⟩)]) ++ Δ) ++ outB vb vals) ++ outB v2 c2) := hO
    refine opP_i offPtr_ptr ?_
    refine load_at hO (B.length + 1) (at_l (i5 _ _ _ _)) rfl ?_
    replace hO := hO.rot
    rw [List.append_assoc _ Δ] at hO
    refine newSl_at hO (bs_row v2 (RdB.shape h2.rd) _) ?_
    clear hO
    intro q H hO
    have h2o : ([v2] : List Value).all oneCell = true := by obtain ⟨a, n, c, rfl⟩ := RdB.shape h2.rd; rfl
    refine append_elem hO hv rfl (by omega) h2o (by omega) (by omega) ?_
    clear hO
    intro vb' H hO hv'
    obtain ⟨a2, n2, c3, e2⟩ : ∃ a1 n1 c1, vb' = .slice a1 n1 c1 := by rcases hv' with ⟨rfl, _, _⟩ | ⟨p, rfl | rfl, _⟩ <;> exact ⟨_, _, _, rfl⟩
    refine opP_i offPtr_ptr ?_
    refine store1_at hO (B.length + 1) (i5 _ _ _ _) (by rw [e2]; rfl) (show 0 < 3 by omega) (show _ = rowV vb' (stNext want f out) from rfl) ?_
    clear hO
    intro H hO
    rw [List.set_append_left _ _ (by simp), List.set_append_left _ _ (by simp), Go.Ab.set_r] at hO
    replace hO : St H (((B ++ [(p4, ⟨rowV nilSl row0, true⟩), (p5, ⟨rowV vb' (stNext want f out), true⟩)]) ++ (Δ ++ outB v2 c2)) ++ outB vb' (vals ++ [v2])) := hO
    obtain ⟨v3, e3, r3⟩ := sliceS_lo hs hvs hml
    refine opP_i e3 ?_
    have hnl : (stNext want f out).bodies.length = out.bodies.length + 1 := by show (out.bodies ++ [f.body]).length = _; simp
    refine ⟨k', by omega, v3, tt.drop f.many, 2, stNext want f out, Δ ++ outB v2 c2, vb', vals ++ [v2], rfl, .inr rfl, by rw [List.length_drop]; omega, fun s hx => hs s (List.mem_of_mem_drop hx), fun s hx => hb s (List.mem_of_mem_drop hx), r3 _ hvs, by rw [List.length_drop]; omega, by rw [hnl, List.length_drop]; omega, ?_, hsq, hO, by rw [hnl]; exact hv', hrd.app.snoc h2.rd.app', hgo⟩
    show (if want = 1 then f.seq else out.first) < 2 ^ 64
    split
    · exact hsq
    · exact hf
theorem stands_spec (ok : m.Ok) (hb : ∀ s ∈ m.secs part, By s) (hO : St H (Γ ++ MW L m))
    (hk : ∀ H' Δ vb vals, St H' (((Γ ++ Δ) ++ outB vb vals) ++ MW L m) → Own 1 vb (fStands (m.secs part)).bodies.length vals → RdBs Δ vals (fStands (m.secs part)).bodies → K (agg (rowV vb (fStands (m.secs part)))) H') :
    wCall P n_journal_stands [ptr L.pm 0, int part] H K := by
  apply journal_stands_ok; unfold journal_stands
  rw [zcRow]
  refine new_at hO ?_
  clear hO
  intro p4 H hO
  refine new_at hO ?_
  clear hO
  intro p5 H hO
  rw [List.append_assoc _ [_]] at hO
  replace hO := hO.rot
  refine sectors_spec ok hO ?_
  clear hO
  intro H vs hO hvs
  have hO2 : St H (((Γ ++ MW L m) ++ outB vs (secC (m.secs part))) ++ [(p4, ⟨rowV nilSl row0, true⟩), (p5, ⟨rowV nilSl row0, true⟩)]) := St.rev3 hO
  refine stands_loop (secs_ok ok) hb (by rw [secs_len]; have := size_le ok (part := part); omega) (RdS.own hvs).app' hO2 ?_
  clear hO hO2
  intro H Δ vb vals hO hv hrd
  refine loadAll_at hO (((Γ ++ MW L m) ++ outB vs (secC (m.secs part))).length + 0) (at_l (at_l (at_r rfl))) rfl (by omega) ?_
  refine hk H Δ vb vals ?_ hv hrd
  have h3 : St H ((Γ ++ MW L m) ++ (Δ ++ outB vb vals)) := by
    rw [List.append_assoc (_ ++ [_, _])] at hO
    refine hO.sub (List.Sublist.append ?_ (List.Sublist.refl _))
    rw [List.append_assoc (Γ ++ MW L m)]
    exact List.sublist_append_left _ _
  have h4 := h3.rot
  rw [← List.append_assoc Γ Δ] at h4
  exact h4
end J
set_option linter.unusedVariables false
set_option linter.unusedSimpArgs false
set_option maxRecDepth 100000
namespace J
open Go Go.Ab
variable {H : Heap} {Γ Γ2 : List (Nat × Blk)} {K : Value → Heap → Prop} {v w x : Value} {xs ys bs : List Int} {j p : Nat} {e : Int} {ss tt : List (List Int)}
variable {L : Mloc} {m : Mp} {part pos : Int} {s : List Int}
structure Jn where
  a : Int
  b : Int
  now : Int
  last : Nat
  pos : Int
  ready : Bool
def jv (pm : Nat) (t : Jn) : List Value := [ptr pm 0, int t.a, int t.b, int t.now, uint .u64 t.last, int t.pos, .bool t.ready]
abbrev JB (pj pm : Nat) (t : Jn) : List (Nat × Blk) := [(pj, ⟨jv pm t, true⟩)]
structure Jn.Ok (t : Jn) : Prop where
  n : t.now = 0 ∨ t.now = 1
  l : t.last ≤ 4611686018427387904
  p : 0 ≤ t.pos ∧ t.pos ≤ 1000000
def Jn.bank (t : Jn) (i : Int) : Int := if i = 0 then t.a else t.b
variable {pj : Nat} {t : Jn}
theorem bank_at {i : Int} (h : i = 0 ∨ i = 1) : (jv L.pm t)[1 + i.toNat * 1]? = some (int (t.bank i)) := by
  rcases h with rfl | rfl <;> rfl
def Jn.left (t : Jn) (m : Mp) : Int := if t.ready = false then 0 else m.size (t.bank t.now) - t.pos
theorem jLeft_spec (ok : m.Ok) (jok : t.Ok) (hO : St H ((Γ ++ JB pj L.pm t) ++ MW L m)) (hk : K (int (t.left m)) H) : wCall P n_journal_Journal_Left [ptr pj 0] H K := by
  apply journal_Journal_Left_ok; unfold journal_Journal_Left
  repeat (first | refine oi ?_ | refine ow ?_ | refine wy ?_ | refine wn ?_ | refine wt ?_ | refine wf' ?_ | refine cy ?_ | refine cn ?_)
  refine load_at hO (Γ.length + 0) (at_l (at_r rfl)) rfl ?_
  refine opP_i un_not ?_
  unfold Jn.left at hk
  have hp := jok.p
  have hsz := size_le ok (part := t.bank t.now)
  refine wIf_intro (fun h => ?_) (fun h => ?_)
  · rw [if_pos (by simpa using h)] at hk
    exact hk
  · rw [if_neg (by simp at h; simp [h])] at hk
    repeat (first | refine oi ?_ | refine ow ?_ | refine wy ?_ | refine wn ?_ | refine wt ?_ | refine wf' ?_ | refine cy ?_ | refine cn ?_)
    refine load_at hO (Γ.length + 0) (at_l (at_r rfl)) rfl ?_
    repeat (first | refine oi ?_ | refine ow ?_ | refine wy ?_ | refine wn ?_ | refine wt ?_ | refine wf' ?_ | refine cy ?_ | refine cn ?_)
    refine load_at hO (Γ.length + 0) (at_l (at_r rfl)) rfl ?_
    repeat (first | refine oi ?_ | refine ow ?_ | refine wy ?_ | refine wn ?_ | refine wt ?_ | refine wf' ?_ | refine cy ?_ | refine cn ?_)
    refine opP_i (idxPtr_ok (by have := jok.n; omega) (by have := jok.n; omega)) ?_
    refine load_at hO (Γ.length + 0) (at_l (at_r rfl)) (by rw [Nat.zero_add]; exact bank_at jok.n) ?_
    refine mSize_spec hO ?_
    repeat (first | refine oi ?_ | refine ow ?_ | refine wy ?_ | refine wn ?_ | refine wt ?_ | refine wf' ?_ | refine cy ?_ | refine cn ?_)
    refine load_at hO (Γ.length + 0) (at_l (at_r rfl)) rfl ?_
    refine ⟨same_at hO (Γ.length + 0) (at_l (at_r rfl)) hO (Γ.length + 0) (at_l (at_r rfl)) rfl, ?_⟩
    refine opP_i (bin_subi (by omega) (by omega)) ?_
    exact hk
def Jn.fits (t : Jn) (m : Mp) (n : Int) : Prop := 0 < fSize n ∧ fSize n ≤ m.size t.a ∧ fSize n ≤ m.size t.b
instance (t : Jn) (m : Mp) (n : Int) : Decidable (t.fits m n) := by unfold Jn.fits; infer_instance
theorem jFits_spec {n : Int} (hO : St H ((Γ ++ JB pj L.pm t) ++ MW L m)) (hk : K (.bool (decide (t.fits m n))) H) : wCall P n_journal_Journal_Fits [ptr pj 0, int n] H K := by
  apply journal_Journal_Fits_ok; unfold journal_Journal_Fits
  refine Size_spec ?_
  refine opP_i bin_gtr ?_
  refine wIf_dec (fun h => ?_) (fun h => ?_)
  · rw [decide_eq_true h]
    repeat (first | refine oi ?_ | refine ow ?_ | refine wy ?_ | refine wn ?_ | refine wt ?_ | refine wf' ?_ | refine cy ?_ | refine cn ?_)
    refine load_at hO (Γ.length + 0) (at_l (at_r rfl)) rfl ?_
    repeat (first | refine oi ?_ | refine ow ?_ | refine wy ?_ | refine wn ?_ | refine wt ?_ | refine wf' ?_ | refine cy ?_ | refine cn ?_)
    refine load_at hO (Γ.length + 0) (at_l (at_r rfl)) (v := int t.a) rfl ?_
    refine mSize_spec hO ?_
    repeat (first | refine oi ?_ | refine ow ?_ | refine wy ?_ | refine wn ?_ | refine wt ?_ | refine wf' ?_ | refine cy ?_ | refine cn ?_)
    refine load_at hO (Γ.length + 0) (at_l (at_r rfl)) rfl ?_
    refine ⟨same_at hO (Γ.length + 0) (at_l (at_r rfl)) hO (Γ.length + 0) (at_l (at_r rfl)) rfl, ?_⟩
    repeat (first | refine oi ?_ | refine ow ?_ | refine wy ?_ | refine wn ?_ | refine wt ?_ | refine wf' ?_ | refine cy ?_ | refine cn ?_)
    refine load_at hO (Γ.length + 0) (at_l (at_r rfl)) (v := int t.b) rfl ?_
    refine ⟨same_at hO (Γ.length + 0) (at_l (at_r rfl)) hO (Γ.length + 0) (at_l (at_r rfl)) rfl, ?_⟩
    refine mSize_spec hO ?_
    refine opW_i min_w ?_
    refine opP_i bin_leq ?_
    refine opP_i pick_true ?_
    rw [decide_eq_decide.2 (show (fSize n : Int) ≤ min (m.size t.a : Int) (m.size t.b : Int) ↔ t.fits m n from ⟨fun h2 => ⟨by omega, by omega, by omega⟩, fun h2 => by have := h2.2.1; have := h2.2.2; omega⟩)]
    exact hk
  · rw [decide_eq_false h]
    rw [decide_eq_false (show ¬ t.fits m n from fun h2 => by have := h2.1; omega)] at hk
    refine opP_i pick_false ?_
    exact hk
def mWrite (bank : Int) : Int → List (List Int) → Mp → Mp × Int
  | _, [], m => m.sync
  | a, s :: r, m => if (m.program bank a s).2 ≠ 0 then m.program bank a s else mWrite bank (a + 1) r (m.program bank a s).1
theorem mWrite_nil {bank a : Int} : mWrite bank a [] m = m.sync := rfl
theorem mWrite_cons {bank a : Int} {s : List Int} {r : List (List Int)} : mWrite bank a (s :: r) m = if (m.program bank a s).2 ≠ 0 then m.program bank a s else mWrite bank (a + 1) r (m.program bank a s).1 := rfl
theorem jWrite_spec {bank a : Int} {N : Nat} (ok : m.Ok) (hsm : m.Sm N) (hN : N + ss.length ≤ 1000000) (ha : 0 ≤ a ∧ a ≤ 1000000) (hs : S64 ss) (hv : RdS Γ v ss) (hO : St H ((Γ ++ JB pj L.pm t) ++ MW L m)) (how : Mown L m)
    (hk : ∀ H' L', L.Eq L' → St H' ((Γ ++ JB pj L.pm t) ++ MW L' (mWrite bank a ss m).1) → Mown L' (mWrite bank a ss m).1 → K (int (mWrite bank a ss m).2) H') : wCall P n_journal_Journal_write [ptr pj 0, int bank, int a, v] H K := by
  apply journal_Journal_write_ok; unfold journal_Journal_write
  refine opW_i hv.lenSl ?_
  refine journal_Journal_write_L0_ind (fun k l' H' => ∃ (y : Nat) (L2 : Mloc) (m2 : Mp), y ≤ ss.length ∧ k = ss.length - y ∧ l' = [ptr pj 0, int bank, int a, int 0, v, int ss.length, int y] ∧ L.Eq L2 ∧ m2.Ok ∧ m2.Sm (N + y) ∧ St H' ((Γ ++ JB pj L.pm t) ++ MW L2 m2) ∧ Mown L2 m2 ∧ mWrite bank a ss m = mWrite bank (a + y) (ss.drop y) m2) _ _ ?_ ss.length _ _ ⟨0, L, m, by omega, rfl, rfl, Mloc.Eq.rfl', ok, hsm, hO, how, by simp⟩
  clear hO how
  rintro k l' H ⟨y, L2, m2, hy, rfl, rfl, he, ok2, hs2, hO, hv2, hw⟩
  unfold journal_Journal_write_L0
  try simp only [nth_zero, nth_succ]
  refine opP_i bin_lss ?_
  have em := he.m
  refine wIf_dec (fun h1 => ?_) (fun h1 => ?_)
  · have hyl : y < ss.length := by omega
    have hsl := hs _ (List.getElem_mem hyl)
    rw [List.drop_eq_getElem_cons hyl, mWrite_cons] at hw
    refine secAt hO hs hv.app.app hyl ?_
    rw [zcS]
    refine new_at hO ?_
    clear hO
    intro p10 H hO
    refine storeAll_at hO (((Γ ++ JB pj L.pm t) ++ MW L2 m2).length + 0) (at_r rfl) (by rw [by8_len]; rfl) (by rw [by8_len]; exact hsl) (by8_one _) ?_
    clear hO
    intro H hO
    replace hO : St H (((Γ ++ JB pj L.pm t) ++ MW L2 m2) ++ [(p10, ⟨by8 ss[y], true⟩)]) := hO.set_r
    repeat (first | refine oi ?_ | refine ow ?_ | refine wy ?_ | refine wn ?_ | refine wt ?_ | refine wf' ?_ | refine cy ?_ | refine cn ?_)
    refine load_at hO (Γ.length + 0) (at_l (at_l (at_r rfl))) rfl ?_
    refine opP_i (bin_addi (by omega) (by omega)) ?_
    refine loadAll_at hO (((Γ ++ JB pj L.pm t) ++ MW L2 m2).length + 0) (at_r rfl) (by rw [by8_len]; exact hsl) (by omega) ?_
    rw [← em]
    refine mProgram_spec ok2 hsl (hs2.mono (by omega)) hO.left hv2 ?_
    clear hO
    intro H L3 he3 hO hv3
    refine opP_i bin_neq ?_
    refine wIf_dec (fun h3 => ?_) (fun h3 => ?_)
    · rw [if_pos h3] at hw
      try simp only [nth_zero, nth_succ]
      rw [hw] at hk
      exact hk _ L3 (he.trans he3) hO hv3
    · rw [if_neg h3] at hw
      repeat (first | refine oi ?_ | refine ow ?_ | refine wy ?_ | refine wn ?_ | refine wt ?_ | refine wf' ?_ | refine cy ?_ | refine cn ?_)
      refine ⟨_, by omega, y + 1, L3, _, by omega, rfl, rfl, he.trans he3, Mp.program_ok ok2 hsl, (Mp.program_sm hs2).mono (by omega), by rw [em]; exact hO, hv3, ?_⟩
      rw [hw, Int.add_assoc]; rfl
  · have ey : y = ss.length := by omega
    subst ey
    rw [List.drop_length, mWrite_nil] at hw
    refine cond_yes rfl ?_
    try simp only [nth_zero, nth_succ]
    repeat (first | refine oi ?_ | refine ow ?_ | refine wy ?_ | refine wn ?_ | refine wt ?_ | refine wf' ?_ | refine cy ?_ | refine cn ?_)
    refine load_at hO (Γ.length + 0) (at_l (at_r rfl)) rfl ?_
    rw [hw] at hk
    rw [← em]
    refine mSync_spec ok2 (hs2.mono (by omega)) hO hv2 ?_
    clear hO
    intro H L3 he3 hO hv3
    exact hk _ L3 (he.trans he3) hO hv3
end J
set_option linter.unusedVariables false
set_option linter.unusedSimpArgs false
set_option maxRecDepth 100000
namespace J
open Go Go.Ab
variable {H : Heap} {Γ Γ2 : List (Nat × Blk)} {K : Value → Heap → Prop} {v w x : Value} {xs ys bs body : List Int} {j p : Nat} {e : Int} {ss tt : List (List Int)}
variable {L : Mloc} {m : Mp} {part pos : Int} {s : List Int} {pj : Nat} {t : Jn}
def Jn.room (t : Jn) (m : Mp) (n : Int) : Prop := ¬ (¬ t.fits m n ∨ 4611686018427387904 ≤ t.last)
instance (t : Jn) (m : Mp) (n : Int) : Decidable (t.room m n) := by unfold Jn.room; infer_instance
noncomputable def jBegin (t : Jn) (m : Mp) (body : List Int) : Jn × Mp × Int :=
  if ¬ t.room m body.length then (t, m, 92) else
  let t1 : Jn := { t with ready := false }
  let o := 1 - t.now
  let bank := t.bank o
  let w := m.wipe bank
  if w.2 ≠ 0 then (t1, w.1, w.2) else
  let y := w.1.sync
  if y.2 ≠ 0 then (t1, y.1, y.2) else
  let l := fPut 1 (t.last + 1) body
  let z := mWrite bank 0 l y.1
  if z.2 ≠ 0 then (t1, z.1, z.2) else ({ t with now := o, last := t.last + 1, pos := l.length, ready := true }, z.1, 0)
theorem wipeN_sm {N : Nat} : ∀ (n y : Nat) (m : Mp) (N : Nat), m.Sm N → (Mp.wipeN part n y m).1.Sm (N + n)
  | 0, _, m, N, h => h
  | n + 1, y, m, N, h => by
    rw [Mp.wipeN_succ]
    split
    · exact (wipeN_sm (N := N) n (y + 1) m N h).mono (by omega)
    split
    · exact (Mp.erase_sm h).mono (by omega)
    · exact (wipeN_sm (N := N) n (y + 1) _ (N + 1) (Mp.erase_sm h)).mono (by omega)
theorem wipeN_ok : ∀ (n y : Nat) (m : Mp), m.Ok → (Mp.wipeN part n y m).1.Ok
  | 0, _, m, h => h
  | n + 1, y, m, h => by
    rw [Mp.wipeN_succ]
    split
    · exact wipeN_ok n (y + 1) m h
    split
    · exact Mp.erase_ok h
    · exact wipeN_ok n (y + 1) _ (Mp.erase_ok h)
theorem wipe_ok (ok : m.Ok) : (m.wipe part).1.Ok := by
  unfold Mp.wipe
  split
  · exact ok
  · exact wipeN_ok _ _ _ ok
theorem wipe_sm {N : Nat} (ok : m.Ok) (h : m.Sm N) : (m.wipe part).1.Sm (N + 4096) := by
  unfold Mp.wipe
  split
  · exact h.mono (by omega)
  · exact (wipeN_sm (N := N) _ _ _ N h).mono (by have := size_le ok (part := part); omega)
theorem mWrite_ok {bank : Int} : ∀ (l : List (List Int)) (a : Int) (m : Mp), m.Ok → S64 l → (mWrite bank a l m).1.Ok
  | [], _, m, h, _ => Mp.sync_ok h
  | s :: r, a, m, h, hs => by
    rw [mWrite_cons]
    split
    · exact Mp.program_ok h (hs s List.mem_cons_self)
    · exact mWrite_ok r _ _ (Mp.program_ok h (hs s List.mem_cons_self)) fun x hx => hs x (List.mem_cons_of_mem _ hx)
theorem mWrite_sm {bank : Int} : ∀ (l : List (List Int)) (a : Int) (m : Mp) (N : Nat), m.Sm N → (mWrite bank a l m).1.Sm (N + l.length)
  | [], _, m, N, h => Mp.sync_sm h
  | s :: r, a, m, N, h => by
    rw [mWrite_cons]
    split
    · exact (Mp.program_sm h).mono (by simp)
    · exact (mWrite_sm r _ _ (N + 1) (Mp.program_sm h)).mono (by simp; omega)
theorem fPut_len {kind seq : Nat} : (fPut kind seq body).length ≤ 100 := by
  unfold fPut
  split
  · simp
  · rw [chunkS_len, sealB_len]; unfold nCh; omega
theorem jBegin_ok (ok : m.Ok) : (jBegin t m body).2.1.Ok := by
  unfold jBegin
  split
  · exact ok
  simp only
  split
  · exact wipe_ok ok
  split
  · exact Mp.sync_ok (wipe_ok ok)
  split
  · exact mWrite_ok _ _ _ (Mp.sync_ok (wipe_ok ok)) fPut_ok
  · exact mWrite_ok _ _ _ (Mp.sync_ok (wipe_ok ok)) fPut_ok
theorem jBegin_sm {N : Nat} (ok : m.Ok) (h : m.Sm N) : (jBegin t m body).2.1.Sm (N + 4200) := by
  have h1 := wipe_sm ok h (part := t.bank (1 - t.now))
  have h2 := Mp.sync_sm h1
  have hl := fPut_len (body := body) (kind := 1) (seq := t.last + 1)
  unfold jBegin
  split
  · exact h.mono (by omega)
  simp only
  split
  · exact h1.mono (by omega)
  split
  · exact h2.mono (by omega)
  split
  · exact (mWrite_sm _ _ _ _ h2).mono (by omega)
  · exact (mWrite_sm _ _ _ _ h2).mono (by omega)
theorem jBegin_jok (jok : t.Ok) : (jBegin t m body).1.Ok := by
  unfold jBegin
  split
  · exact jok
  rename_i hr
  have hr := Decidable.not_not.1 hr
  unfold Jn.room at hr
  simp only
  split
  · exact ⟨jok.n, jok.l, jok.p⟩
  split
  · exact ⟨jok.n, jok.l, jok.p⟩
  split
  · exact ⟨jok.n, jok.l, jok.p⟩
  · have hl := fPut_len (body := body) (kind := 1) (seq := t.last + 1)
    refine ⟨by have := jok.n; show 1 - t.now = 0 ∨ 1 - t.now = 1; omega, by show t.last + 1 ≤ _; omega, by show 0 ≤ ((fPut 1 (t.last + 1) body).length : Int) ∧ ((fPut 1 (t.last + 1) body).length : Int) ≤ 1000000; omega⟩
theorem cvU64 {n : Nat} (hn : n + 1 < 2 ^ 64) {tt : TypeId} {c : Bool} : (binC P .add tt c).f (uint .u64 n) (uint .u64 1) = some (uint .u64 (n + 1)) := by
  rw [bin_addU rfl, Nat.mod_eq_of_lt (show n + 1 < szU .u64 from hn)]
theorem jset {t' : Jn} {R : List (Nat × Blk)} {c : List Value} (h : St H (((Γ ++ JB pj L.pm t) ++ R).set (Γ.length + 0) (pj, ⟨c, true⟩))) (hc : c = jv L.pm t') : St H ((Γ ++ JB pj L.pm t') ++ R) := by
  rw [List.set_append_left _ _ (by simp), Go.Ab.set_r, hc] at h
  exact h
set_option maxHeartbeats 2000000 in
theorem jBegin_spec {N : Nat} (ok : m.Ok) (jok : t.Ok) (hsm : m.Sm N) (hN : N + 10000 ≤ 1000000) (hv : RdB Γ v body) (hb : By body) (hl : body.length ≤ 1000000) (hO : St H ((Γ ++ JB pj L.pm t) ++ MW L m)) (how : Mown L m)
    (hk : ∀ H' L', L.Eq L' → St H' ((Γ ++ JB pj L'.pm (jBegin t m body).1) ++ MW L' (jBegin t m body).2.1) → Mown L' (jBegin t m body).2.1 → K (int (jBegin t m body).2.2) H') : wCall P n_journal_Journal_Begin [ptr pj 0, v] H K := by
  apply journal_Journal_Begin_ok; unfold journal_Journal_Begin
  unfold jBegin at hk
  refine join_with (fun l' H' => l' = [ptr pj 0, v] ∧ H' = H ∧ t.room m body.length) ?_ ?_
  · refine opW_i hv.lenSl ?_
    refine jFits_spec hO ?_
    refine opP_i un_not ?_
    by_cases h : t.fits m body.length
    · rw [decide_eq_true h]
      refine wIf_f rfl ?_
      repeat (first | refine oi ?_ | refine ow ?_ | refine wy ?_ | refine wn ?_ | refine wt ?_ | refine wf' ?_ | refine cy ?_ | refine cn ?_)
      refine load_at hO (Γ.length + 0) (at_l (at_r rfl)) rfl ?_
      refine opP_i (bin_geq (k := .u64)) ?_
      refine opP_i pick_false ?_
      refine wIf_dec (fun h2 => ?_) (fun h2 => ?_)
      · rw [if_pos (show ¬ t.room m body.length from fun h3 => h3 (.inr (by omega)))] at hk
        exact hk _ L Mloc.Eq.rfl' hO how
      · exact ⟨rfl, rfl, fun h3 => by rcases h3 with h3 | h3; exact h3 h; omega⟩
    · rw [decide_eq_false h]
      refine wIf_t rfl ?_
      refine opP_i pick_true ?_
      refine wIf_t rfl ?_
      rw [if_pos (show ¬ t.room m body.length from fun h3 => h3 (.inl h))] at hk
      exact hk _ L Mloc.Eq.rfl' hO how
  rintro l' H' ⟨rfl, rfl, hr⟩
  rw [if_neg (fun h => h hr)] at hk
  unfold Jn.room at hr
  try simp only [nth_zero, nth_succ]
  repeat (first | refine oi ?_ | refine ow ?_ | refine wy ?_ | refine wn ?_ | refine wt ?_ | refine wf' ?_ | refine cy ?_ | refine cn ?_)
  refine store1_at hO (Γ.length + 0) (at_l (at_r rfl)) rfl (show 6 < 7 by omega) rfl ?_
  clear hO
  intro H hO
  replace hO : St H ((Γ ++ JB pj L.pm { t with ready := false }) ++ MW L m) := jset hO rfl
  repeat (first | refine oi ?_ | refine ow ?_ | refine wy ?_ | refine wn ?_ | refine wt ?_ | refine wf' ?_ | refine cy ?_ | refine cn ?_)
  refine load_at hO (Γ.length + 0) (at_l (at_r rfl)) rfl ?_
  have hn := jok.n
  refine opP_i (v := int (1 - t.now)) (bin_subi (by show _ ≤ 1 - t.now; omega) (by show 1 - t.now ≤ _; omega)) ?_
  repeat (first | refine oi ?_ | refine ow ?_ | refine wy ?_ | refine wn ?_ | refine wt ?_ | refine wf' ?_ | refine cy ?_ | refine cn ?_)
  refine load_at hO (Γ.length + 0) (at_l (at_r rfl)) (v := int (t.bank (1 - t.now))) (by rw [Nat.zero_add]; exact bank_at (t := { t with ready := false }) (by omega)) ?_
  repeat (first | refine oi ?_ | refine ow ?_ | refine wy ?_ | refine wn ?_ | refine wt ?_ | refine wf' ?_ | refine cy ?_ | refine cn ?_)
  refine load_at hO (Γ.length + 0) (at_l (at_r rfl)) rfl ?_
  refine mWipe_spec (N := N) ok hsm (by omega) hO how ?_
  clear hO
  intro H L1 he1 hO how1
  simp only at hk
  have w1 := wipe_sm ok hsm (part := t.bank (1 - t.now))
  have w2 := wipe_ok ok (part := t.bank (1 - t.now))
  generalize m.wipe (t.bank (1 - t.now)) = W at *
  refine opP_i bin_neq ?_
  rw [← he1.m] at hO
  refine wIf_dec (fun h => ?_) (fun h => ?_)
  · rw [if_pos h] at hk
    exact hk _ L1 he1 hO how1
  rw [if_neg h] at hk
  repeat (first | refine oi ?_ | refine ow ?_ | refine wy ?_ | refine wn ?_ | refine wt ?_ | refine wf' ?_ | refine cy ?_ | refine cn ?_)
  refine load_at hO (Γ.length + 0) (at_l (at_r rfl)) rfl ?_
  refine mSync_spec w2 (w1.mono (by omega)) hO how1 ?_
  clear hO
  intro H L2 he2 hO how2
  have w3 := Mp.sync_sm w1
  have w4 := Mp.sync_ok w2
  generalize W.1.sync = Y at *
  refine opP_i bin_neq ?_
  rw [← he2.m] at hO
  refine wIf_dec (fun h => ?_) (fun h => ?_)
  · rw [if_pos h] at hk
    exact hk _ L2 (he1.trans he2) hO how2
  rw [if_neg h] at hk
  repeat (first | refine oi ?_ | refine ow ?_ | refine wy ?_ | refine wn ?_ | refine wt ?_ | refine wf' ?_ | refine cy ?_ | refine cn ?_)
  refine load_at hO (Γ.length + 0) (at_l (at_r rfl)) rfl ?_
  refine opP_i (v := uint .u64 (t.last + 1)) (cvU64 (n := t.last) (by omega)) ?_
  refine Put_spec (kind := 1) (seq := t.last + 1) hO hv.app.app hb (by omega) (by omega) ?_
  have hpl := fPut_len (body := body) (kind := 1) (seq := t.last + 1)
  have hps := fPut_ok (body := body) (kind := 1) (seq := t.last + 1)
  generalize fPut 1 (t.last + 1) body = l at *
  clear hO
  intro H vl hO hvl
  have hO2 : St H (((Γ ++ outB vl (secC l)) ++ JB pj L2.pm { t with ready := false }) ++ MW L2 Y.1) := by
    have h3 := hO
    rw [List.append_assoc Γ] at h3
    have h4 := h3.rot
    rw [← List.append_assoc (Γ ++ outB vl (secC l))] at h4
    exact h4
  have fin : ∀ {H : Heap} {Δ1 Δ2 : List (Nat × Blk)}, St H (((Γ ++ outB vl (secC l)) ++ Δ1) ++ Δ2) → St H ((Γ ++ Δ1) ++ Δ2) := fun h => h.sub (List.Sublist.append (List.Sublist.append (List.sublist_append_left _ _) (List.Sublist.refl _)) (List.Sublist.refl _))
  refine jWrite_spec (N := N + 4096) (a := 0) w4 w3 (by omega) (by omega) hps (RdS.own hvl).app' hO2 how2 ?_
  clear hO hO2
  intro H L3 he3 hO how3
  generalize mWrite (t.bank (1 - t.now)) 0 l Y.1 = Z at *
  refine opP_i bin_neq ?_
  rw [← he3.m] at hO
  refine wIf_dec (fun h => ?_) (fun h => ?_)
  · rw [if_pos h] at hk
    exact hk _ L3 ((he1.trans he2).trans he3) (fin hO) how3
  rw [if_neg h] at hk
  replace hO := fin hO
  repeat (first | refine oi ?_ | refine ow ?_ | refine wy ?_ | refine wn ?_ | refine wt ?_ | refine wf' ?_ | refine cy ?_ | refine cn ?_)
  refine load_at hO (Γ.length + 0) (at_l (at_r rfl)) rfl ?_
  refine opP_i (v := uint .u64 (t.last + 1)) (cvU64 (n := t.last) (by omega)) ?_
  refine opW_i hvl.lenSl ?_
  repeat (first | refine oi ?_ | refine ow ?_ | refine wy ?_ | refine wn ?_ | refine wt ?_ | refine wf' ?_ | refine cy ?_ | refine cn ?_)
  refine store1_at hO (Γ.length + 0) (at_l (at_r rfl)) rfl (show 3 < 7 by omega) rfl ?_
  clear hO
  intro H hO
  replace hO : St H ((Γ ++ JB pj L3.pm { t with ready := false, now := 1 - t.now }) ++ MW L3 Z.1) := jset hO rfl
  repeat (first | refine oi ?_ | refine ow ?_ | refine wy ?_ | refine wn ?_ | refine wt ?_ | refine wf' ?_ | refine cy ?_ | refine cn ?_)
  refine store1_at hO (Γ.length + 0) (at_l (at_r rfl)) rfl (show 4 < 7 by omega) rfl ?_
  clear hO
  intro H hO
  replace hO : St H ((Γ ++ JB pj L3.pm { t with ready := false, now := 1 - t.now, last := t.last + 1 }) ++ MW L3 Z.1) := jset hO rfl
  repeat (first | refine oi ?_ | refine ow ?_ | refine wy ?_ | refine wn ?_ | refine wt ?_ | refine wf' ?_ | refine cy ?_ | refine cn ?_)
  refine store1_at hO (Γ.length + 0) (at_l (at_r rfl)) rfl (show 5 < 7 by omega) rfl ?_
  clear hO
  intro H hO
  replace hO : St H ((Γ ++ JB pj L3.pm { t with ready := false, now := 1 - t.now, last := t.last + 1, pos := l.length }) ++ MW L3 Z.1) := jset hO rfl
  repeat (first | refine oi ?_ | refine ow ?_ | refine wy ?_ | refine wn ?_ | refine wt ?_ | refine wf' ?_ | refine cy ?_ | refine cn ?_)
  refine store1_at hO (Γ.length + 0) (at_l (at_r rfl)) rfl (show 6 < 7 by omega) rfl ?_
  clear hO
  intro H hO
  replace hO : St H ((Γ ++ JB pj L3.pm { t with ready := true, now := 1 - t.now, last := t.last + 1, pos := l.length }) ++ MW L3 Z.1) := jset hO rfl
  exact hk _ L3 ((he1.trans he2).trans he3) hO how3
end J
set_option linter.unusedVariables false
set_option linter.unusedSimpArgs false
set_option maxRecDepth 100000
namespace J
open Go Go.Ab
variable {H : Heap} {Γ Γ2 : List (Nat × Blk)} {K : Value → Heap → Prop} {v w x : Value} {xs ys bs body : List Int} {j p : Nat} {e : Int} {ss tt : List (List Int)}
variable {L : Mloc} {m : Mp} {part pos : Int} {s : List Int} {pj : Nat} {t : Jn}
def Jn.more (t : Jn) (m : Mp) (n : Nat) : Prop := ¬ (n = 0 ∨ t.left m < n ∨ 4611686018427387904 ≤ t.last)
instance (t : Jn) (m : Mp) (n : Nat) : Decidable (t.more m n) := by unfold Jn.more; infer_instance
noncomputable def jAppend (t : Jn) (m : Mp) (body : List Int) : Jn × Mp × Int :=
  if t.ready = false then (t, m, 91) else
  let l := fPut 2 (t.last + 1) body
  if ¬ t.more m l.length then (t, m, 92) else
  let z := mWrite (t.bank t.now) t.pos l m
  if z.2 ≠ 0 then ({ t with ready := false }, z.1, z.2) else ({ t with last := t.last + 1, pos := t.pos + l.length }, z.1, 0)
theorem jAppend_ok (ok : m.Ok) : (jAppend t m body).2.1.Ok := by
  unfold jAppend
  split
  · exact ok
  simp only
  split
  · exact ok
  split
  · exact mWrite_ok _ _ _ ok fPut_ok
  · exact mWrite_ok _ _ _ ok fPut_ok
theorem jAppend_sm {N : Nat} (ok : m.Ok) (h : m.Sm N) : (jAppend t m body).2.1.Sm (N + 100) := by
  have hl := fPut_len (body := body) (kind := 2) (seq := t.last + 1)
  unfold jAppend
  split
  · exact h.mono (by omega)
  simp only
  split
  · exact h.mono (by omega)
  split
  · exact (mWrite_sm _ _ _ _ h).mono (by omega)
  · exact (mWrite_sm _ _ _ _ h).mono (by omega)
theorem jAppend_jok (ok : m.Ok) (jok : t.Ok) : (jAppend t m body).1.Ok := by
  unfold jAppend
  split
  · exact jok
  rename_i hr0
  simp only
  split
  · exact jok
  rename_i hr
  have hr := Decidable.not_not.1 hr
  unfold Jn.more at hr
  split
  · exact ⟨jok.n, jok.l, jok.p⟩
  · have hl := fPut_len (body := body) (kind := 2) (seq := t.last + 1)
    have h1 : t.left m = m.size (t.bank t.now) - t.pos := if_neg hr0
    have h2 := size_le ok (part := t.bank t.now)
    have := jok.p
    refine ⟨jok.n, by show t.last + 1 ≤ _; omega, by show 0 ≤ t.pos + ((fPut 2 (t.last + 1) body).length : Int) ∧ t.pos + ((fPut 2 (t.last + 1) body).length : Int) ≤ 1000000; omega⟩
set_option maxHeartbeats 2000000 in
theorem jAppend_spec {N : Nat} (ok : m.Ok) (jok : t.Ok) (hsm : m.Sm N) (hN : N + 10000 ≤ 1000000) (hv : RdB Γ v body) (hb : By body) (hO : St H ((Γ ++ JB pj L.pm t) ++ MW L m)) (how : Mown L m)
    (hk : ∀ H' L', L.Eq L' → St H' ((Γ ++ JB pj L'.pm (jAppend t m body).1) ++ MW L' (jAppend t m body).2.1) → Mown L' (jAppend t m body).2.1 → K (int (jAppend t m body).2.2) H') : wCall P n_journal_Journal_Append [ptr pj 0, v] H K := by
  apply journal_Journal_Append_ok; unfold journal_Journal_Append
  unfold jAppend at hk
  repeat (first | refine oi ?_ | refine ow ?_ | refine wy ?_ | refine wn ?_ | refine wt ?_ | refine wf' ?_ | refine cy ?_ | refine cn ?_)
  refine load_at hO (Γ.length + 0) (at_l (at_r rfl)) rfl ?_
  refine opP_i un_not ?_
  refine wIf_intro (fun h0 => ?_) (fun h0 => ?_)
  · rw [if_pos (by simpa using h0)] at hk
    exact hk _ L Mloc.Eq.rfl' hO how
  rw [if_neg (by simp at h0; simp [h0])] at hk
  have jl := jok.l
  have jp := jok.p
  repeat (first | refine oi ?_ | refine ow ?_ | refine wy ?_ | refine wn ?_ | refine wt ?_ | refine wf' ?_ | refine cy ?_ | refine cn ?_)
  refine load_at hO (Γ.length + 0) (at_l (at_r rfl)) rfl ?_
  refine opP_i (v := uint .u64 (t.last + 1)) (cvU64 (n := t.last) (by omega)) ?_
  refine Put_spec (kind := 2) (seq := t.last + 1) hO hv.app.app hb (by omega) (by omega) ?_
  simp only at hk
  have hpl := fPut_len (body := body) (kind := 2) (seq := t.last + 1)
  have hps := fPut_ok (body := body) (kind := 2) (seq := t.last + 1)
  generalize fPut 2 (t.last + 1) body = l at *
  clear hO
  intro H vl hO hvl
  have hO2 : St H (((Γ ++ outB vl (secC l)) ++ JB pj L.pm t) ++ MW L m) := by
    have h3 := hO
    rw [List.append_assoc Γ] at h3
    have h4 := h3.rot
    rw [← List.append_assoc (Γ ++ outB vl (secC l))] at h4
    exact h4
  clear hO
  have fin : ∀ {H : Heap} {Δ1 Δ2 : List (Nat × Blk)}, St H (((Γ ++ outB vl (secC l)) ++ Δ1) ++ Δ2) → St H ((Γ ++ Δ1) ++ Δ2) := fun h => h.sub (List.Sublist.append (List.Sublist.append (List.sublist_append_left _ _) (List.Sublist.refl _)) (List.Sublist.refl _))
  refine join_with (fun l' H' => l' = [ptr pj 0, vl] ∧ H' = H ∧ t.more m l.length) ?_ ?_
  · refine opW_i hvl.lenSl ?_
    refine opP_i bin_eql ?_
    refine wIf_dec (fun h => ?_) (fun h => ?_)
    · rw [if_pos (show ¬ t.more m l.length from fun h3 => h3 (.inl (by omega)))] at hk
      rw [decide_eq_true h]
      refine opP_i pick_true ?_
      refine opP_i pick_true ?_
      refine wIf_t rfl ?_
      exact hk _ L Mloc.Eq.rfl' (fin hO2) how
    · rw [decide_eq_false h]
      refine opW_i hvl.lenSl ?_
      refine jLeft_spec ok jok hO2 ?_
      refine opP_i bin_gtr ?_
      refine opP_i pick_false ?_
      refine wIf_dec (fun h2 => ?_) (fun h2 => ?_)
      · rw [if_pos (show ¬ t.more m l.length from fun h3 => h3 (.inr (.inl h2)))] at hk
        rw [decide_eq_true h2]
        refine opP_i pick_true ?_
        refine wIf_t rfl ?_
        exact hk _ L Mloc.Eq.rfl' (fin hO2) how
      · rw [decide_eq_false h2]
        repeat (first | refine oi ?_ | refine ow ?_ | refine wy ?_ | refine wn ?_ | refine wt ?_ | refine wf' ?_ | refine cy ?_ | refine cn ?_)
        refine load_at hO2 ((Γ ++ outB vl (secC l)).length + 0) (at_l (at_r rfl)) rfl ?_
        refine opP_i (bin_geq (k := .u64)) ?_
        refine opP_i pick_false ?_
        refine wIf_dec (fun h3 => ?_) (fun h3 => ?_)
        · rw [if_pos (show ¬ t.more m l.length from fun h4 => h4 (.inr (.inr (by omega))))] at hk
          exact hk _ L Mloc.Eq.rfl' (fin hO2) how
        · exact ⟨rfl, rfl, fun h4 => by rcases h4 with h4 | h4 | h4; exact h (by omega); exact h2 h4; exact h3 (by omega)⟩
  rintro l' H' ⟨rfl, rfl, hr⟩
  rw [if_neg (fun h => h hr)] at hk
  unfold Jn.more at hr
  have hleft : t.left m = m.size (t.bank t.now) - t.pos := if_neg (by simp at h0; simp [h0])
  have hsz := size_le ok (part := t.bank t.now)
  try simp only [nth_zero, nth_succ]
  repeat (first | refine oi ?_ | refine ow ?_ | refine wy ?_ | refine wn ?_ | refine wt ?_ | refine wf' ?_ | refine cy ?_ | refine cn ?_)
  refine load_at hO2 ((Γ ++ outB vl (secC l)).length + 0) (at_l (at_r rfl)) rfl ?_
  repeat (first | refine oi ?_ | refine ow ?_ | refine wy ?_ | refine wn ?_ | refine wt ?_ | refine wf' ?_ | refine cy ?_ | refine cn ?_)
  refine opP_i (idxPtr_ok (by have := jok.n; omega) (by have := jok.n; omega)) ?_
  refine load_at hO2 ((Γ ++ outB vl (secC l)).length + 0) (at_l (at_r rfl)) (by rw [Nat.zero_add]; exact bank_at jok.n) ?_
  repeat (first | refine oi ?_ | refine ow ?_ | refine wy ?_ | refine wn ?_ | refine wt ?_ | refine wf' ?_ | refine cy ?_ | refine cn ?_)
  refine load_at hO2 ((Γ ++ outB vl (secC l)).length + 0) (at_l (at_r rfl)) rfl ?_
  refine jWrite_spec (N := N) ok hsm (by omega) jp hps (RdS.own hvl).app' hO2 how ?_
  clear hO2
  intro H L3 he3 hO how3
  generalize mWrite (t.bank t.now) t.pos l m = Z at *
  replace hO := fin hO
  rw [← he3.m] at hO
  refine opP_i bin_neq ?_
  refine wIf_dec (fun h => ?_) (fun h => ?_)
  · rw [if_pos h] at hk
    repeat (first | refine oi ?_ | refine ow ?_ | refine wy ?_ | refine wn ?_ | refine wt ?_ | refine wf' ?_ | refine cy ?_ | refine cn ?_)
    refine store1_at hO (Γ.length + 0) (at_l (at_r rfl)) rfl (show 6 < 7 by omega) rfl ?_
    clear hO
    intro H hO
    replace hO : St H ((Γ ++ JB pj L3.pm { t with ready := false }) ++ MW L3 Z.1) := jset hO rfl
    exact hk _ L3 he3 hO how3
  rw [if_neg h] at hk
  repeat (first | refine oi ?_ | refine ow ?_ | refine wy ?_ | refine wn ?_ | refine wt ?_ | refine wf' ?_ | refine cy ?_ | refine cn ?_)
  refine load_at hO (Γ.length + 0) (at_l (at_r rfl)) rfl ?_
  refine opP_i (v := uint .u64 (t.last + 1)) (cvU64 (n := t.last) (by omega)) ?_
  repeat (first | refine oi ?_ | refine ow ?_ | refine wy ?_ | refine wn ?_ | refine wt ?_ | refine wf' ?_ | refine cy ?_ | refine cn ?_)
  refine load_at hO (Γ.length + 0) (at_l (at_r rfl)) rfl ?_
  refine opW_i hvl.lenSl ?_
  refine opP_i (bin_addi (by omega) (by omega)) ?_
  repeat (first | refine oi ?_ | refine ow ?_ | refine wy ?_ | refine wn ?_ | refine wt ?_ | refine wf' ?_ | refine cy ?_ | refine cn ?_)
  refine store1_at hO (Γ.length + 0) (at_l (at_r rfl)) rfl (show 4 < 7 by omega) rfl ?_
  clear hO
  intro H hO
  replace hO : St H ((Γ ++ JB pj L3.pm { t with last := t.last + 1 }) ++ MW L3 Z.1) := jset hO rfl
  repeat (first | refine oi ?_ | refine ow ?_ | refine wy ?_ | refine wn ?_ | refine wt ?_ | refine wf' ?_ | refine cy ?_ | refine cn ?_)
  refine store1_at hO (Γ.length + 0) (at_l (at_r rfl)) rfl (show 5 < 7 by omega) rfl ?_
  clear hO
  intro H hO
  replace hO : St H ((Γ ++ JB pj L3.pm { t with last := t.last + 1, pos := t.pos + l.length }) ++ MW L3 Z.1) := jset hO rfl
  exact hk _ L3 he3 hO how3
end J
set_option linter.unusedVariables false
set_option linter.unusedSimpArgs false
set_option maxRecDepth 100000
namespace J
open Go Go.Ab
variable {H : Heap} {Γ Γ2 : List (Nat × Blk)} {K : Value → Heap → Prop} {v w x : Value} {xs ys bs body : List Int} {j p : Nat} {e : Int} {ss tt : List (List Int)}
variable {L : Mloc} {m : Mp} {part pos : Int} {s : List Int} {pj : Nat} {t : Jn}
theorem _root_.Go.Ab.St.ne [lp : LpC] {i j p q : Nat} {b b' : Blk} (h : St H Γ) (hi : Γ[i]? = some (p, b)) (hj : Γ[j]? = some (q, b')) (hij : i ≠ j) : p ≠ q := by
  intro e
  subst e
  have n1 : (Γ.map (·.1))[i]? = some p := by rw [List.getElem?_map, hi]; rfl
  have n2 : (Γ.map (·.1))[j]? = some p := by rw [List.getElem?_map, hj]; rfl
  have hlt : i < (Γ.map (·.1)).length := by rw [List.length_map]; exact (List.getElem?_eq_some_iff.1 hi).1
  exact hij ((List.getElem?_inj hlt h.nd).1 (n1.trans n2.symm))
theorem apart2 {p q o o' : Nat} {k : IntKind} {x : Int} (h : p ≠ q) : cApart (idsOf [ptr p o]) (idsOf [ptr q o', .int k x]) := by
  show apartIds [p] [q] = true
  have e : Nat.beq p q = false := by
    cases hb : Nat.beq p q with
    | false => rfl
    | true => exact absurd (Nat.eq_of_beq_eq_true hb) h
  simp [apartIds, allN_eq, memN, e]
def jPick (x y : Row) : Prop := 0 < x.bodies.length ∧ (y.bodies.length = 0 ∨ y.first < x.first)
instance (x y : Row) : Decidable (jPick x y) := by unfold jPick; infer_instance
noncomputable def jStand (m : Mp) (a b : Int) : Row := if jPick (fStands (m.secs a)) (fStands (m.secs b)) then fStands (m.secs a) else fStands (m.secs b)
noncomputable def jOpen (m : Mp) (a b : Int) : Jn := ⟨a, b, if jPick (fStands (m.secs a)) (fStands (m.secs b)) then 0 else 1, (jStand m a b).last, 0, false⟩
theorem bJn (pm : Nat) (a b : Int) : (buildC P 108).f [(0, ptr pm 0), (1, agg [int a, int b]), (2, .int .i64 1)] = some (agg (jv pm ⟨a, b, 1, 0, 0, false⟩)) := by kernel_rfl
theorem bPair (a b : Int) : (buildC P 29).f [(0, int a), (1, int b)] = some (agg [int a, int b]) := by kernel_rfl
structure OwnBs (Δ : List (Nat × Blk)) (vb : Value) (vals : List Value) (bs : List (List Int)) : Prop where
  o : Own 1 vb bs.length vals
  r : RdBs Δ vals bs
theorem row_one {vb : Value} {n : Nat} {vals : List Value} (h : Own 1 vb n vals) {r : Row} : (rowV vb r).all oneCell = true := by
  rcases h with ⟨rfl, _, _⟩ | ⟨p, rfl | rfl, _⟩ <;> rfl
theorem own_sl {vb : Value} {n : Nat} {vals : List Value} (h : Own 1 vb n vals) : ∃ a k c, vb = .slice a k c := by
  rcases h with ⟨rfl, _, _⟩ | ⟨p, rfl | rfl, _⟩ <;> exact ⟨_, _, _, rfl⟩
set_option maxHeartbeats 2000000 in
theorem jOpen_spec {a b : Int} (ok : m.Ok) (ha : ∀ s ∈ m.secs a, By s) (hb : ∀ s ∈ m.secs b, By s) (hO : St H (Γ ++ MW L m))
    (hk : ∀ H' Δ vb vals pj, St H' ((((Γ ++ Δ) ++ outB vb vals) ++ JB pj L.pm (jOpen m a b)) ++ MW L m) → OwnBs Δ vb vals (jStand m a b).bodies → K (.tuple [ptr pj 0, vb].toArray) H') :
    wCall P n_journal_Open [ptr L.pm 0, int a, int b] H K := by
  apply journal_Open_ok; unfold journal_Open
  refine opP_i (bPair _ _) ?_
  refine opP_i (bJn _ _ _) ?_
  refine new_at hO ?_
  clear hO
  intro pj H hO
  replace hO : St H ((Γ ++ MW L m) ++ JB pj L.pm ⟨a, b, 1, 0, 0, false⟩) := hO
  replace hO := hO.rot
  refine stands_spec ok ha hO ?_
  clear hO
  intro H Δ1 v1 vals1 hO own1 rd1
  refine stands_spec ok hb hO ?_
  clear hO
  intro H Δ2 v2 vals2 hO own2 rd2
  have hf1 : (fStands (m.secs a)).last < 2 ^ 64 ∨ True := .inr trivial
  unfold jOpen jStand at hk
  generalize fStands (m.secs a) = X at *
  generalize fStands (m.secs b) = Y at *
  rw [zcRow]
  refine new_at hO ?_
  clear hO
  intro q9 H hO
  refine new_at hO ?_
  clear hO
  intro q10 H hO
  rw [List.append_assoc _ [_]] at hO
  obtain ⟨B, hB, hj⟩ : ∃ B, B = ((((((Γ ++ JB pj L.pm ⟨a, b, 1, 0, 0, false⟩) ++ Δ1) ++ outB v1 vals1) ++ Δ2) ++ outB v2 vals2) ++ MW L m) ∧ B[Γ.length + 0]? = some (pj, ⟨jv L.pm ⟨a, b, 1, 0, 0, false⟩, true⟩) := ⟨_, rfl, at_l (at_l (at_l (at_l (at_l (at_r rfl)))))⟩
  rw [← hB] at hO
  refine storeAll_at hO (B.length + 0) (at_r rfl) rfl (show (rowV v1 X).length = 3 from rfl) (row_one own1) ?_
  clear hO
  intro H hO
  replace hO : St H (B ++ [(q9, ⟨rowV v1 X, true⟩), (q10, ⟨rowV nilSl row0, true⟩)]) := hO.set_r
  refine storeAll_at hO (B.length + 1) (at_r rfl) rfl (show (rowV v2 Y).length = 3 from rfl) (row_one own2) ?_
  clear hO
  intro H hO
  replace hO : St H (B ++ [(q9, ⟨rowV v1 X, true⟩), (q10, ⟨rowV v2 Y, true⟩)]) := hO.set_r
  have fin1 : ∀ {H : Heap} {t' : Jn} {R : List (Nat × Blk)}, St H (B.set (Γ.length + 0) (pj, ⟨jv L.pm t', true⟩) ++ R) → St H ((((Γ ++ Δ1) ++ outB v1 vals1) ++ JB pj L.pm t') ++ MW L m) := by
    intro H t' R h
    have h2 := h.left
    rw [hB, List.set_append_left _ _ (by simp), List.set_append_left _ _ (by simp), List.set_append_left _ _ (by simp), List.set_append_left _ _ (by simp), List.set_append_left _ _ (by simp), Go.Ab.set_r] at h2
    have h3 : St H ((((Γ ++ JB pj L.pm t') ++ Δ1) ++ outB v1 vals1) ++ MW L m) := h2.sub (List.Sublist.append (by rw [List.append_assoc _ Δ2]; exact List.sublist_append_left _ _) (List.Sublist.refl _))
    refine h3.perm (List.Perm.append_right _ ?_)
    rw [List.append_assoc _ Δ1, List.append_assoc _ Δ1, List.append_assoc Γ, List.append_assoc Γ]
    exact List.Perm.append_left _ List.perm_append_comm
  have fin2 : ∀ {H : Heap} {t' : Jn} {R : List (Nat × Blk)}, St H (B.set (Γ.length + 0) (pj, ⟨jv L.pm t', true⟩) ++ R) → St H ((((Γ ++ Δ2) ++ outB v2 vals2) ++ JB pj L.pm t') ++ MW L m) := by
    intro H t' R h
    have h2 := h.left
    rw [hB, List.set_append_left _ _ (by simp), List.set_append_left _ _ (by simp), List.set_append_left _ _ (by simp), List.set_append_left _ _ (by simp), List.set_append_left _ _ (by simp), Go.Ab.set_r] at h2
    have h3 : St H ((((Γ ++ JB pj L.pm t') ++ Δ2) ++ outB v2 vals2) ++ MW L m) := h2.sub (List.Sublist.append (List.Sublist.append (List.Sublist.append (by rw [List.append_assoc _ Δ1]; exact List.sublist_append_left _ _) (List.Sublist.refl _)) (List.Sublist.refl _)) (List.Sublist.refl _))
    refine h3.perm (List.Perm.append_right _ ?_)
    rw [List.append_assoc _ Δ2, List.append_assoc _ Δ2, List.append_assoc Γ, List.append_assoc Γ]
    exact List.Perm.append_left _ List.perm_append_comm
  refine join_with (fun l' H' => l' = [ptr pj 0, ptr q10 0] ∧ (jPick X Y → St H' (B.set (Γ.length + 0) (pj, ⟨jv L.pm ⟨a, b, 0, 0, 0, false⟩, true⟩) ++ [(q9, ⟨rowV v1 X, true⟩), (q10, ⟨rowV v1 X, true⟩)])) ∧ (¬ jPick X Y → St H' (B ++ [(q9, ⟨rowV v1 X, true⟩), (q10, ⟨rowV v2 Y, true⟩)]))) ?_ ?_
  · refine join_with (fun l' H' => l' = [ptr pj 0, ptr q9 0, ptr q10 0, .bool (decide (jPick X Y))] ∧ H' = H) ?_ ?_
    · refine opP_i offPtr_ptr ?_
      refine load_at hO (B.length + 0) (at_r rfl) (v := v1) rfl ?_
      refine opW_i own1.lenSl ?_
      refine opP_i bin_gtr ?_
      refine wIf_dec (fun h => ?_) (fun h => ?_)
      · rw [decide_eq_true h]
        refine opP_i offPtr_ptr ?_
        refine load_at hO (B.length + 1) (at_r rfl) (v := v2) rfl ?_
        refine opW_i own2.lenSl ?_
        refine opP_i bin_eql ?_
        refine wIf_dec (fun h2 => ?_) (fun h2 => ?_)
        · rw [decide_eq_true h2]
          refine opP_i pick_true ?_
          refine opP_i pick_true ?_
          exact ⟨by rw [decide_eq_true (show jPick X Y from ⟨by omega, .inl (by omega)⟩)], rfl⟩
        · rw [decide_eq_false h2]
          refine opP_i offPtr_ptr ?_
          refine load_at hO (B.length + 0) (at_r rfl) (v := uint .u64 X.first) rfl ?_
          refine opP_i offPtr_ptr ?_
          refine load_at hO (B.length + 1) (at_r rfl) (v := uint .u64 Y.first) rfl ?_
          refine opP_i bin_gtr ?_
          refine opP_i pick_false ?_
          refine opP_i pick_true ?_
          refine ⟨?_, rfl⟩
          rw [decide_eq_decide.2 (show ((Y.first : Int) < X.first) ↔ jPick X Y from ⟨fun h3 => ⟨by omega, .inr (by omega)⟩, fun h3 => by rcases h3.2 with h4 | h4 <;> omega⟩)]
      · rw [decide_eq_false h]
        refine opP_i pick_false ?_
        exact ⟨by rw [decide_eq_false (show ¬ jPick X Y from fun h2 => by have := h2.1; omega)], rfl⟩
    rintro l' H' ⟨rfl, rfl⟩
    try simp only [nth_zero, nth_succ]
    refine wIf_dec (fun h => ?_) (fun h => ?_)
    · refine loadAll_at hO (B.length + 0) (at_r rfl) rfl (by omega) ?_
      refine opP_i nilCheck_ptr ?_
      refine opP_i offPtr_ptr ?_
      have hne := St.ne hO (i := B.length + 0) (j := Γ.length + 0) (at_r rfl) (at_l hj) (by have := (List.getElem?_eq_some_iff.1 hj).1; omega)
      refine store1_at hO (Γ.length + 0) (at_l hj) rfl (show 3 < 7 by omega) (show _ = jv L.pm ⟨a, b, 0, 0, 0, false⟩ from rfl) ?_
      clear hO
      intro H hO
      rw [List.set_append_left _ _ ((List.getElem?_eq_some_iff.1 hj).1)] at hO
      refine ⟨apart2 hne, ?_⟩
      refine storeAll_at hO (_ + 1) (at_r rfl) rfl (show (rowV v1 X).length = 3 from rfl) (row_one own1) ?_
      clear hO
      intro H hO
      exact ⟨trivial, fun _ => hO.set_r, fun h2 => absurd h h2⟩
    · exact ⟨trivial, fun h2 => absurd h2 h, fun _ => hO⟩
  clear hO
  rintro l' H ⟨rfl, hOp, hOn⟩
  try simp only [nth_zero, nth_succ]
  obtain ⟨a1, n1, c1, e1⟩ := own_sl own1
  obtain ⟨a2, n2, c2, e2⟩ := own_sl own2
  by_cases h : jPick X Y
  · have hO := hOp h
    rw [if_pos h, if_pos h] at hk
    generalize hB2 : B.set (Γ.length + 0) (pj, ⟨jv L.pm ⟨a, b, 0, 0, 0, false⟩, true⟩) = B2 at *
    refine opP_i offPtr_ptr ?_
    refine load_at hO (B2.length + 1) (at_r rfl) (v := uint .u64 X.last) rfl ?_
    refine opP_i nilCheck_ptr ?_
    refine opP_i offPtr_ptr ?_
    have hj2 : B2[Γ.length + 0]? = some (pj, ⟨jv L.pm ⟨a, b, 0, 0, 0, false⟩, true⟩) := by rw [← hB2]; exact set_at hj
    refine store1_at hO (Γ.length + 0) (at_l hj2) rfl (show 4 < 7 by omega) (show _ = jv L.pm ⟨a, b, 0, X.last, 0, false⟩ from rfl) ?_
    clear hO
    intro H hO
    rw [List.set_append_left _ _ ((List.getElem?_eq_some_iff.1 hj2).1), ← hB2, List.set_set] at hO
    refine opP_i offPtr_ptr ?_
    refine load_at hO (_ + 1) (at_r rfl) (v := v1) rfl ?_
    exact hk H Δ1 v1 vals1 pj (fin1 hO) ⟨own1, rd1⟩
  · have hO := hOn h
    rw [if_neg h, if_neg h] at hk
    refine opP_i offPtr_ptr ?_
    refine load_at hO (B.length + 1) (at_r rfl) (v := uint .u64 Y.last) rfl ?_
    refine opP_i nilCheck_ptr ?_
    refine opP_i offPtr_ptr ?_
    refine store1_at hO (Γ.length + 0) (at_l hj) rfl (show 4 < 7 by omega) (show _ = jv L.pm ⟨a, b, 1, Y.last, 0, false⟩ from rfl) ?_
    clear hO
    intro H hO
    rw [List.set_append_left _ _ ((List.getElem?_eq_some_iff.1 hj).1)] at hO
    refine opP_i offPtr_ptr ?_
    refine load_at hO (_ + 1) (at_r rfl) (v := v2) rfl ?_
    exact hk H Δ2 v2 vals2 pj (fin2 hO) ⟨own2, rd2⟩
end J
