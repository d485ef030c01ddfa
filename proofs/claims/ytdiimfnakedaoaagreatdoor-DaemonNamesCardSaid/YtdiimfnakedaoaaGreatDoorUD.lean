/- texts of the proof, one behind the other -/
import Derived.Test.YtdiimfnakedaoaaGreatDoorUC
set_option linter.unusedSectionVars false
set_option linter.unusedVariables false
set_option linter.unusedSimpArgs false
set_option maxRecDepth 100000
namespace J
open Go Go.Ab
variable [lp : LpC]
variable {H : Heap} {Γ Γ0 Γ2 Δ G : List (Nat × Blk)} {K : Value → Heap → Prop} {v w x : Value} {xs ys zs bs b data : List Int} {j p pd pz : Nat} {e : Int} {cs : List Value}
abbrev u64 (n : Nat) : Value := uint .u64 n
theorem add64 {t : TypeId} {c : Bool} {a b : Nat} (h : a + b < 18446744073709551616) : (binC P .add t c).f (u64 a) (u64 b) = some (u64 (a + b)) := by
  rw [bin_addU (k := .u64) rfl, Nat.mod_eq_of_lt (show a + b < szU .u64 from h)]
theorem quo_i {t : TypeId} {c : Bool} {a b : Nat} (hb : 0 < b) (ha : a < 9223372036854775807) : (binC P .quo t c).f (int a) (int b) = some (int ((a / b : Nat) : Int)) := by
  rw [binC_int _ _ rfl]
  show (match eqB (b : Int) 0 with | true => none | false => some (Value.int .i64 (wrapA .i64 ((a : Int).tdiv b)))) = _
  rw [eqB_eq, decide_eq_false (by omega)]
  show some (Value.int .i64 (wrapA .i64 ((a / b : Nat) : Int))) = _
  have h1 : ((a / b : Nat) : Int) ≤ (a : Int) := Int.ofNat_le.2 (Nat.div_le_self a b)
  have h2 : (0 : Int) ≤ ((a / b : Nat) : Int) := Int.natCast_nonneg _
  generalize ((a / b : Nat) : Int) = q at *
  rw [wrap_i (by omega) (by omega)]
theorem right_spec {a n : Nat} (ha : a < 4294967296) (hn : 0 < n) (hn2 : n < 32) (hk : K (u64 (rr a n)) H) : wCall P n_ref02_right [u64 a, u64 n] H K := by
  apply ref02_right_ok; unfold ref02_right
  have e64 : szU .u64 = 18446744073709551616 := rfl
  have hp : 2 ^ (32 - n) ≤ 2 ^ 31 := Nat.pow_le_pow_right (by omega) (by omega)
  have hm : a * 2 ^ (32 - n) < 18446744073709551616 := Nat.lt_of_le_of_lt (Nat.mul_le_mul (Nat.le_of_lt ha) hp) (by decide)
  have hd : a / 2 ^ n < 4294967296 := Nat.lt_of_le_of_lt (Nat.div_le_self _ _) ha
  refine opP_i (bin_shrU (k := .u64) rfl (show n ≤ 64 by omega)) ?_
  refine opP_i (v := u64 (32 - n)) (by rw [show (Value.int .u64 32) = uint .u64 32 from rfl, bin_subU rfl (by omega) (by decide)]) ?_
  refine opP_i (bin_shlU (k := .u64) rfl (show 32 - n ≤ 64 by omega)) ?_
  rw [Nat.mod_eq_of_lt (show a * 2 ^ (32 - n) < szU .u64 from hm)]
  refine opP_i (bin_orU (k := .u64) rfl (show _ < 18446744073709551616 by omega) hm) ?_
  refine opP_i (bin_remU (k := .u64) (b := 4294967296) (by decide)) ?_
  have e : (a / 2 ^ n ||| a * 2 ^ (32 - n)) % 4294967296 = rr a n := by
    unfold rr
    rw [show (4294967296 : Nat) = 2 ^ 32 from rfl, Nat.or_mod_two_pow, Nat.mod_eq_of_lt (show a / 2 ^ n < 2 ^ 32 from hd)]
  rw [e]; exact hk
def wM (w : List Nat) (n : Nat) : List Value := (w.map fun (n : Nat) => u64 n) ++ u64 n :: List.replicate (63 - w.length) (u64 0)
def wL (w : List Nat) : List Value := (w.map fun (n : Nat) => u64 n) ++ List.replicate (64 - w.length) (u64 0)
theorem wM_len {w : List Nat} {n : Nat} (h : w.length ≤ 63) : (wM w n).length = 64 := by simp [wM]; omega
theorem wM_zero {w : List Nat} (h : w.length ≤ 63) : wM w 0 = wL w := by
  unfold wM wL
  obtain ⟨m, hm⟩ : ∃ m, 64 - w.length = m + 1 := ⟨63 - w.length, by omega⟩
  rw [hm, List.replicate_succ, show 63 - w.length = m by omega]
theorem wM_done {w : List Nat} {n : Nat} (h : w.length ≤ 63) : wM w n = wL (w ++ [n]) := by
  unfold wM wL
  rw [List.length_append, show 64 - (w.length + [n].length) = 63 - w.length by show 64 - (w.length + 1) = _; omega]
  simp
theorem wM_at {w : List Nat} {n : Nat} : (wM w n)[w.length]? = some (u64 n) := by
  unfold wM
  rw [List.getElem?_append_right (by simp)]
  simp
theorem wM_set {w : List Nat} {n n' : Nat} : (wM w n).set w.length (u64 n') = wM w n' := by
  unfold wM
  rw [List.set_append_right _ _ (by simp)]
  simp
theorem wL_at {w : List Nat} {i : Nat} (h : i < w.length) : (wL w)[i]? = some (u64 (w.getD i 0)) := by
  unfold wL
  rw [List.getElem?_append_left (by simpa using h)]
  simp [h]
theorem wL_simple {w : List Nat} : (wL w).all simpleB = true := by simp [wL, simpleB, simple0]
def wPart (b : List Int) (t : Nat) : Nat → Nat
  | 0 => 0
  | y + 1 => 256 * wPart b t y + (b.getD (4 * t + y) 0).toNat
theorem wPart_4 {b : List Int} {t : Nat} : wPart b t 4 = wWord b t := by
  show 256 * (256 * (256 * (256 * 0 + (b.getD (4 * t + 0) 0).toNat) + (b.getD (4 * t + 1) 0).toNat) + (b.getD (4 * t + 2) 0).toNat) + (b.getD (4 * t + 3) 0).toNat = _
  unfold wWord
  rw [Nat.add_zero]
  omega
theorem wPart_lt {b : List Int} (h : ∀ x ∈ b, 0 ≤ x ∧ x ≤ 255) (t : Nat) : ∀ y, wPart b t y < 256 ^ y
  | 0 => Nat.zero_lt_one
  | y + 1 => by
    show 256 * wPart b t y + _ < 256 ^ (y + 1)
    have h1 := wPart_lt h t y
    have h2 := by_getD h (4 * t + y)
    rw [Nat.pow_succ]
    omega
theorem blk_getD {m i : Nat} (h : i < 64) : ((data.drop (64 * m)).take 64).getD i 0 = data.getD (64 * m + i) 0 := by
  rw [List.getD_eq_getElem?_getD, List.getD_eq_getElem?_getD, List.getElem?_take_of_lt h, List.getElem?_drop]
theorem r_L4 {p2 p7 p8 p10 m t : Nat} {ws : List Nat} {Qx : Nat → List Value → Heap → Prop} {Qr : List Value → Heap → Prop} (hv : RdB Γ v data) (hb : ∀ x ∈ data, 0 ≤ x ∧ x ≤ 255) (hm : 64 * m + 64 ≤ data.length) (hl : data.length ≤ 1000000000) (ht : t < 16) (hw : ws.length = t)
    (hO : St H (Γ ++ [(p10, ⟨wL ws, true⟩)]))
    (hk : ∀ H', St H' (Γ ++ [(p10, ⟨wL (ws ++ [wWord ((data.drop (64 * m)).take 64) t]), true⟩)]) → Qx 8 [ptr p2 0, v, ptr p7 0, ptr p8 0, int ((64 * m : Nat) : Int), ptr p10 0, int t] H') :
    wLoop P true 252 ref02_Sum_P4 3980 [ptr p2 0, v, ptr p7 0, ptr p8 0, int ((64 * m : Nat) : Int), ptr p10 0, int t, int 0] H Qx Qr := by
  have hbb : ∀ x ∈ (data.drop (64 * m)).take 64, 0 ≤ x ∧ x ≤ 255 := fun x hx => hb x (List.mem_of_mem_drop (List.mem_of_mem_take hx))
  rw [← wM_zero (by omega)] at hO
  refine ref02_Sum_L4_ind (fun k l' H' => ∃ (y : Nat), y ≤ 4 ∧ k = 4 - y ∧ l' = [ptr p2 0, v, ptr p7 0, ptr p8 0, int ((64 * m : Nat) : Int), ptr p10 0, int t, int y] ∧ St H' (Γ ++ [(p10, ⟨wM ws (wPart ((data.drop (64 * m)).take 64) t y), true⟩)])) _ _ ?_ 4 _ _ ⟨0, by omega, rfl, rfl, hO⟩
  clear hO
  rintro k l' H ⟨y, hy, rfl, rfl, hO⟩
  unfold ref02_Sum_L4
  try simp only [nth_zero, nth_succ]
  refine opP_i bin_lss ?_
  refine wIf_dec (fun h => ?_) (fun h => ?_)
  · have hy4 : y < 4 := by omega
    have hp := wPart_lt hbb t y
    have hp3 : 256 ^ y ≤ 256 ^ 3 := Nat.pow_le_pow_right (by omega) (by omega)
    have hp4 : (256 : Nat) ^ 3 = 16777216 := rfl
    have g := by_getD hb (64 * m + (4 * t + y))
    refine opP_i (idxPtr_ok (by omega) (by omega)) ?_
    rw [Int.toNat_natCast]
    refine load_at hO (Γ.length + 0) (at_r rfl) (v := u64 (wPart ((data.drop (64 * m)).take 64) t y)) (by rw [show 0 + t * 1 = ws.length by omega]; exact wM_at) ?_
    refine opP_i (v := u64 (256 * wPart ((data.drop (64 * m)).take 64) t y)) (by
      rw [show (Value.int .u64 256) = uint .u64 256 from rfl, bin_mulU (k := .u64) rfl, Nat.mod_eq_of_lt (show _ < szU .u64 from (show _ < 18446744073709551616 by omega))]) ?_
    refine opP_i (v := int ((4 * t : Nat) : Int)) (by rw [bin_muli (by omega) (by omega)]; congr 2 <;> omega) ?_
    refine opP_i (v := int ((64 * m + 4 * t : Nat) : Int)) (by rw [bin_addi (by omega) (by omega)]; congr 2 <;> omega) ?_
    refine opP_i (v := int ((64 * m + (4 * t + y) : Nat) : Int)) (by rw [bin_addi (by omega) (by omega)]; congr 2 <;> omega) ?_
    refine by_at hO hv.app hb rfl (by omega) ?_
    refine opW_i (cvU (k' := .u64) rfl) ?_
    rw [Nat.mod_eq_of_lt (show (data.getD (64 * m + (4 * t + y)) 0).toNat < szU .u64 from (show _ < 18446744073709551616 by omega))]
    refine opP_i (add64 (by omega)) ?_
    refine opP_i (idxPtr_ok (by omega) (by omega)) ?_
    rw [Int.toNat_natCast]
    refine store1_at hO (Γ.length + 0) (at_r rfl) rfl (by rw [wM_len (by omega)]; omega) (show _ = wM ws (wPart ((data.drop (64 * m)).take 64) t (y + 1)) from ?_) ?_
    · rw [show 0 + t * 1 = ws.length by omega, wM_set]
      show _ = wM ws (256 * _ + _)
      rw [blk_getD (by omega)]
    clear hO
    intro H hO
    replace hO := hO.set_r
    repeat (first | refine oi ?_ | refine ow ?_ | refine wy ?_ | refine wn ?_ | refine wt ?_ | refine wf' ?_ | refine cy ?_ | refine cn ?_)
    exact ⟨4 - (y + 1), by omega, y + 1, by omega, rfl, rfl, hO⟩
  · have hy : y = 4 := by omega
    subst hy
    rw [wPart_4, wM_done (by omega)] at hO
    exact hk H hO
theorem turn2 {x a b : Nat} : turnN x [a, b] = rr x a ^^^ rr x b := by
  show (0 ^^^ rr x a) ^^^ rr x b = _
  rw [Nat.zero_xor]
theorem turn3 {x a b c : Nat} : turnN x [a, b, c] = (rr x a ^^^ rr x b) ^^^ rr x c := by
  show ((0 ^^^ rr x a) ^^^ rr x b) ^^^ rr x c = _
  rw [Nat.zero_xor]
theorem lt64 {a : Nat} (h : a < 4294967296) : a < szU .u64 := Nat.lt_trans h (by decide)
set_option maxHeartbeats 2000000 in
theorem r_L3 {p2 p7 p8 p10 m : Nat} {Qx : Nat → List Value → Heap → Prop} {Qr : List Value → Heap → Prop} (hv : RdB Γ v data) (hb : ∀ x ∈ data, 0 ≤ x ∧ x ≤ 255) (hm : 64 * m + 64 ≤ data.length) (hl : data.length ≤ 1000000000)
    (hO : St H (Γ ++ [(p10, ⟨wL [], true⟩)]))
    (hk : ∀ H', St H' (Γ ++ [(p10, ⟨wL (wUp ((data.drop (64 * m)).take 64) 64), true⟩)]) → Qx 6 [ptr p2 0, v, ptr p7 0, ptr p8 0, int ((64 * m : Nat) : Int), ptr p10 0] H') :
    wLoop P true 252 ref02_Sum_P3 1932 [ptr p2 0, v, ptr p7 0, ptr p8 0, int ((64 * m : Nat) : Int), ptr p10 0, int 0] H Qx Qr := by
  have hbb : ∀ x ∈ (data.drop (64 * m)).take 64, 0 ≤ x ∧ x ≤ 255 := fun x hx => hb x (List.mem_of_mem_drop (List.mem_of_mem_take hx))
  refine ref02_Sum_L3_ind (fun k l' H' => ∃ (y : Nat), y ≤ 64 ∧ k = 64 - y ∧ l' = [ptr p2 0, v, ptr p7 0, ptr p8 0, int ((64 * m : Nat) : Int), ptr p10 0, int y] ∧ St H' (Γ ++ [(p10, ⟨wL (wUp ((data.drop (64 * m)).take 64) y), true⟩)])) _ _ ?_ 64 _ _ ⟨0, by omega, rfl, rfl, hO⟩
  clear hO
  rintro k l' H ⟨y, hy, rfl, rfl, hO⟩
  unfold ref02_Sum_L3
  try simp only [nth_zero, nth_succ]
  have hwl := wUp_len (b := (data.drop (64 * m)).take 64) y
  have es : wUp ((data.drop (64 * m)).take 64) (y + 1) = wUp ((data.drop (64 * m)).take 64) y ++ [wNext ((data.drop (64 * m)).take 64) (wUp ((data.drop (64 * m)).take 64) y) y] := rfl
  have hlt : ∀ i, (wUp ((data.drop (64 * m)).take 64) y).getD i 0 < 4294967296 := getD_lt (wUp_lt hbb y)
  refine opP_i bin_lss ?_
  refine wIf_dec (fun h => ?_) (fun h => ?_)
  · refine opP_i bin_lss ?_
    refine wIf_dec (fun h16 => ?_) (fun h16 => ?_)
    · refine r_L4 hv hb hm hl (by omega) hwl hO ?_
      clear hO
      intro H hO
      refine cond_yes rfl ?_
      try simp only [nth_zero, nth_succ]
      repeat (first | refine oi ?_ | refine ow ?_ | refine wy ?_ | refine wn ?_ | refine wt ?_ | refine wf' ?_ | refine cy ?_ | refine cn ?_)
      refine ⟨64 - (y + 1), by omega, y + 1, by omega, rfl, rfl, ?_⟩
      rw [es, show wNext ((data.drop (64 * m)).take 64) (wUp ((data.drop (64 * m)).take 64) y) y = wWord ((data.drop (64 * m)).take 64) y by unfold wNext; rw [if_pos (by omega)]]
      exact hO
    · generalize hws : wUp ((data.drop (64 * m)).take 64) y = ws at *
      have ld : ∀ {i : Nat} {K : Value → Heap → Prop}, i < y → K (u64 (ws.getD i 0)) H → opW (loadOne (ptr p10 (0 + i * 1)) H) K := fun {i K} hi hk => load_at hO (Γ.length + 0) (at_r rfl) (v := u64 (ws.getD i 0)) (by rw [show 0 + i * 1 = i by omega]; exact wL_at (by omega)) hk
      have sm : ∀ {o : Nat}, cSame (sameB H H) (idsOf [ptr p10 o]) := same_at hO (Γ.length + 0) (at_r rfl) hO (Γ.length + 0) (at_r rfl) wL_simple
      refine opP_i (bin_subi (by omega) (by omega)) ?_
      refine opP_i (idxPtr_ok (by omega) (by omega)) ?_
      rw [show ((y : Int) - 15).toNat = y - 15 by omega]
      refine ld (by omega) ?_
      refine opP_i (bin_subi (by omega) (by omega)) ?_
      refine opP_i (idxPtr_ok (by omega) (by omega)) ?_
      rw [show ((y : Int) - 2).toNat = y - 2 by omega]
      refine ld (by omega) ?_
      refine opP_i (bin_subi (by omega) (by omega)) ?_
      refine opP_i (idxPtr_ok (by omega) (by omega)) ?_
      rw [show ((y : Int) - 16).toNat = y - 16 by omega]
      refine ld (by omega) ?_
      refine right_spec (n := 7) (hlt _) (by omega) (by omega) ?_
      refine ⟨sm, ?_⟩
      refine right_spec (n := 18) (hlt _) (by omega) (by omega) ?_
      refine ⟨sm, ?_⟩
      have b1 := rr_lt (n := 7) (hlt (y - 15))
      have b2 := rr_lt (n := 18) (hlt (y - 15))
      have b3 := rr_lt (n := 17) (hlt (y - 2))
      have b4 := rr_lt (n := 19) (hlt (y - 2))
      have b5 : ws.getD (y - 15) 0 / 2 ^ 3 < 4294967296 := Nat.lt_of_le_of_lt (Nat.div_le_self _ _) (hlt _)
      have b6 : ws.getD (y - 2) 0 / 2 ^ 10 < 4294967296 := Nat.lt_of_le_of_lt (Nat.div_le_self _ _) (hlt _)
      refine opP_i (bin_xorU (k := .u64) rfl (lt64 b1) (lt64 b2)) ?_
      refine opP_i (bin_shrU (k := .u64) (n := 3) rfl (by decide)) ?_
      have b7 := Nat.xor_lt_two_pow (n := 32) b1 b2
      refine opP_i (bin_xorU (k := .u64) rfl (lt64 b7) (lt64 b5)) ?_
      have b8 := Nat.xor_lt_two_pow (n := 32) b7 b5
      have c1 := hlt (y - 16)
      have c2 := hlt (y - 7)
      refine opP_i (add64 (by omega)) ?_
      refine opP_i (bin_subi (by omega) (by omega)) ?_
      refine opP_i (idxPtr_ok (by omega) (by omega)) ?_
      rw [show ((y : Int) - 7).toNat = y - 7 by omega]
      refine ld (by omega) ?_
      refine ⟨sm, sm, ?_⟩
      refine opP_i (add64 (by omega)) ?_
      refine right_spec (n := 17) (hlt _) (by omega) (by omega) ?_
      refine ⟨sm, sm, ?_⟩
      refine right_spec (n := 19) (hlt _) (by omega) (by omega) ?_
      refine ⟨sm, sm, ?_⟩
      refine opP_i (bin_xorU (k := .u64) rfl (lt64 b3) (lt64 b4)) ?_
      refine opP_i (bin_shrU (k := .u64) (n := 10) rfl (by decide)) ?_
      have b9 := Nat.xor_lt_two_pow (n := 32) b3 b4
      refine opP_i (bin_xorU (k := .u64) rfl (lt64 b9) (lt64 b6)) ?_
      have b10 := Nat.xor_lt_two_pow (n := 32) b9 b6
      refine opP_i (add64 (by omega)) ?_
      refine opP_i (bin_remU (k := .u64) (b := 4294967296) (by decide)) ?_
      refine opP_i (idxPtr_ok (by omega) (by omega)) ?_
      rw [Int.toNat_natCast]
      rw [← wM_zero (by omega)] at hO
      refine store1_at hO (Γ.length + 0) (at_r rfl) rfl (by rw [wM_len (by omega)]; omega) (show _ = wL (ws ++ [wNext ((data.drop (64 * m)).take 64) ws y]) from ?_) ?_
      · rw [show 0 + y * 1 = ws.length by omega, wM_set, wM_done (by omega)]
        unfold wNext
        rw [if_neg (by omega), turn2, turn2]
      clear hO
      intro H hO
      replace hO := hO.set_r
      rw [← es] at hO
      repeat (first | refine oi ?_ | refine ow ?_ | refine wy ?_ | refine wn ?_ | refine wt ?_ | refine wf' ?_ | refine cy ?_ | refine cn ?_)
      exact ⟨64 - (y + 1), by omega, y + 1, by omega, rfl, rfl, hO⟩
  · have hy : y = 64 := by omega
    subst hy
    exact hk H hO
end J
set_option linter.unusedVariables false
set_option linter.unusedSimpArgs false
set_option maxRecDepth 100000
namespace J
open Go Go.Ab
variable [lp : LpC]
variable {H : Heap} {Γ Γ0 Γ2 Δ G : List (Nat × Blk)} {K : Value → Heap → Prop} {v w x : Value} {xs ys zs bs b data : List Int} {j p pd pz : Nat} {e : Int} {cs : List Value}
def l8 (x : W8) : List Value := x.l.map fun (n : Nat) => u64 n
theorem l8_simple (x : W8) : (l8 x).all simpleB = true := rfl
theorem b8 (a b c d e f g h : Int) : (buildC P 138).f [(0, .int .u64 a), (1, .int .u64 b), (2, .int .u64 c), (3, .int .u64 d), (4, .int .u64 e), (5, .int .u64 f), (6, .int .u64 g), (7, .int .u64 h)] = some (agg [.int .u64 a, .int .u64 b, .int .u64 c, .int .u64 d, .int .u64 e, .int .u64 f, .int .u64 g, .int .u64 h]) := by kernel_rfl
theorem kR_at {i : Nat} (h : i < 64) : (kTab.map fun (n : Nat) => u64 n)[i]? = some (u64 (kTab.getD i 0)) := by
  have hl : kTab.length = 64 := rfl
  simp [hl, h]
theorem kR_simple : (kTab.map fun (n : Nat) => u64 n).all simpleB = true := by simp [simpleB, simple0]
theorem mod64 {t : TypeId} {c : Bool} {a : Nat} : (binC P .rem t c).f (u64 a) (.int .u64 4294967296) = some (u64 (a % 4294967296)) := bin_remU (k := .u64) (b := 4294967296) (by decide)
set_option maxHeartbeats 4000000 in
theorem r_L5 {p2 p7 p8 p10 p15 at' : Nat} {s : W8} {ws : List Nat} {Qx : Nat → List Value → Heap → Prop} {Qr : List Value → Heap → Prop} (hs : s.Ok) (hw : ∀ x ∈ ws, x < 4294967296) (hwl : ws.length = 64) {j8 j10 : Nat} (h8 : Γ[j8]? = some (p8, ⟨kTab.map fun (n : Nat) => u64 n, true⟩)) (h10 : Γ[j10]? = some (p10, ⟨wL ws, true⟩))
    (hO : St H (Γ ++ [(p15, ⟨l8 s, true⟩)]))
    (hk : ∀ H', St H' (Γ ++ [(p15, ⟨l8 (rndN ws s 64), true⟩)]) → Qx 10 [ptr p2 0, v, ptr p7 0, ptr p8 0, int at', ptr p15 0] H') :
    wLoop P true 252 ref02_Sum_P5 33676 [ptr p2 0, v, ptr p7 0, ptr p8 0, int at', ptr p10 0, ptr p15 0, int 0] H Qx Qr := by
  refine ref02_Sum_L5_ind (fun k l' H' => ∃ (y : Nat), y ≤ 64 ∧ k = 64 - y ∧ l' = [ptr p2 0, v, ptr p7 0, ptr p8 0, int at', ptr p10 0, ptr p15 0, int y] ∧ St H' (Γ ++ [(p15, ⟨l8 (rndN ws s y), true⟩)])) _ _ ?_ 64 _ _ ⟨0, by omega, rfl, rfl, hO⟩
  clear hO
  rintro k l' H ⟨y, hy, rfl, rfl, hO⟩
  unfold ref02_Sum_L5
  try simp only [nth_zero, nth_succ]
  refine opP_i bin_lss ?_
  refine wIf_dec (fun h => ?_) (fun h => ?_)
  rotate_left
  · have ey : y = 64 := by omega
    subst ey
    exact hk _ hO
  have hxo := rndN_ok (w := ws) hs y
  have ew : ws.getD y 0 < 4294967296 := getD_lt hw y
  have ek := kT_lt y
  have er : rndN ws s (y + 1) = rndF (rndN ws s y) (kTab.getD y 0) (ws.getD y 0) := rfl
  generalize rndN ws s y = x at *
  have i15 : (Γ ++ [(p15, (⟨l8 x, true⟩ : Blk))])[Γ.length + 0]? = some (p15, ⟨l8 x, true⟩) := at_r rfl
  have sm : ∀ {o : Nat}, cSame (sameB H H) (idsOf [ptr p15 o]) := same_at hO _ i15 hO _ i15 (l8_simple x)
  have sm8 : ∀ {o : Nat}, cSame (sameB H H) (idsOf [ptr p8 o]) := same_at hO _ (at_l h8) hO _ (at_l h8) kR_simple
  have sm10 : ∀ {o : Nat}, cSame (sameB H H) (idsOf [ptr p10 o]) := same_at hO _ (at_l h10) hO _ (at_l h10) wL_simple
  have ix : ∀ {i : Int} {h : 0 ≤ i} {h' : i < 8}, True := trivial
  refine opP_i (idxPtr_ok (by omega) (by omega)) ?_
  refine load_at hO _ i15 (v := u64 x.e) rfl ?_
  refine opP_i (idxPtr_ok (by omega) (by omega)) ?_
  refine load_at hO _ i15 (v := u64 x.f) rfl ?_
  refine opP_i (bin_andU (k := .u64) rfl (lt64 hxo.e) (lt64 hxo.f)) ?_
  refine opP_i (v := u64 (4294967295 - x.e)) (by
    have := hxo.e
    rw [show (Value.int .u64 4294967295) = uint .u64 4294967295 from rfl, bin_subU rfl (by omega) (by decide)]) ?_
  refine opP_i (idxPtr_ok (by omega) (by omega)) ?_
  refine load_at hO _ i15 (v := u64 x.g) rfl ?_
  refine opP_i (bin_andU (k := .u64) rfl (lt64 (by omega)) (lt64 hxo.g)) ?_
  refine opP_i (bin_xorU (k := .u64) rfl (lt64 (Nat.and_lt_two_pow (n := 32) _ hxo.f)) (lt64 (Nat.and_lt_two_pow (n := 32) _ hxo.g))) ?_
  have hch : chF x.e x.f x.g < 4294967296 := chF_lt hxo.e hxo.f hxo.g
  rw [show (x.e &&& x.f) ^^^ ((4294967295 - x.e) &&& x.g) = chF x.e x.f x.g from rfl]
  refine opP_i (idxPtr_ok (by omega) (by omega)) ?_
  refine load_at hO _ i15 (v := u64 x.h) rfl ?_
  have b6 := rr_lt (n := 6) hxo.e
  have b11 := rr_lt (n := 11) hxo.e
  have b25 := rr_lt (n := 25) hxo.e
  have b2 := rr_lt (n := 2) hxo.a
  have b13 := rr_lt (n := 13) hxo.a
  have b22 := rr_lt (n := 22) hxo.a
  refine right_spec (n := 6) hxo.e (by omega) (by omega) ?_
  refine ⟨sm, ?_⟩
  refine right_spec (n := 11) hxo.e (by omega) (by omega) ?_
  refine ⟨sm, ?_⟩
  refine opP_i (bin_xorU (k := .u64) rfl (lt64 b6) (lt64 b11)) ?_
  refine right_spec (n := 25) hxo.e (by omega) (by omega) ?_
  refine ⟨sm, ?_⟩
  refine opP_i (bin_xorU (k := .u64) rfl (lt64 (Nat.xor_lt_two_pow (n := 32) b6 b11)) (lt64 b25)) ?_
  rw [← turn3]
  have hS1 : turnN x.e [6, 11, 25] < 4294967296 := turnN_lt hxo.e
  have hh := hxo.h
  refine opP_i (add64 (by omega)) ?_
  refine opP_i (add64 (by omega)) ?_
  refine opP_i (idxPtr_ok (by omega) (by omega)) ?_
  rw [Int.toNat_natCast]
  refine load_at hO _ (at_l h8) (v := u64 (kTab.getD y 0)) (by rw [show 0 + y * 1 = y by omega]; exact kR_at (by omega)) ?_
  refine ⟨sm8, sm8, sm8, ?_⟩
  refine opP_i (add64 (by omega)) ?_
  refine opP_i (idxPtr_ok (by omega) (by omega)) ?_
  rw [Int.toNat_natCast]
  refine load_at hO _ (at_l h10) (v := u64 (ws.getD y 0)) (by rw [show 0 + y * 1 = y by omega]; exact wL_at (by omega)) ?_
  refine ⟨sm10, sm10, sm10, ?_⟩
  refine opP_i (add64 (by omega)) ?_
  refine opP_i (idxPtr_ok (by omega) (by omega)) ?_
  refine load_at hO _ i15 (v := u64 x.a) rfl ?_
  refine opP_i (idxPtr_ok (by omega) (by omega)) ?_
  refine load_at hO _ i15 (v := u64 x.b) rfl ?_
  refine opP_i (bin_andU (k := .u64) rfl (lt64 hxo.a) (lt64 hxo.b)) ?_
  refine opP_i (idxPtr_ok (by omega) (by omega)) ?_
  refine load_at hO _ i15 (v := u64 x.a) rfl ?_
  refine opP_i (idxPtr_ok (by omega) (by omega)) ?_
  refine load_at hO _ i15 (v := u64 x.c) rfl ?_
  refine opP_i (bin_andU (k := .u64) rfl (lt64 hxo.a) (lt64 hxo.c)) ?_
  have ab := Nat.and_lt_two_pow (n := 32) x.a hxo.b
  have ac := Nat.and_lt_two_pow (n := 32) x.a hxo.c
  have bc := Nat.and_lt_two_pow (n := 32) x.b hxo.c
  refine opP_i (bin_xorU (k := .u64) rfl (lt64 ab) (lt64 ac)) ?_
  refine opP_i (idxPtr_ok (by omega) (by omega)) ?_
  refine load_at hO _ i15 (v := u64 x.b) rfl ?_
  refine opP_i (idxPtr_ok (by omega) (by omega)) ?_
  refine load_at hO _ i15 (v := u64 x.c) rfl ?_
  refine opP_i (bin_andU (k := .u64) rfl (lt64 hxo.b) (lt64 hxo.c)) ?_
  refine opP_i (bin_xorU (k := .u64) rfl (lt64 (Nat.xor_lt_two_pow (n := 32) ab ac)) (lt64 bc)) ?_
  rw [show ((x.a &&& x.b) ^^^ (x.a &&& x.c)) ^^^ (x.b &&& x.c) = majF x.a x.b x.c from rfl]
  have hmj : majF x.a x.b x.c < 4294967296 := majF_lt hxo.b hxo.c
  refine opP_i (idxPtr_ok (by omega) (by omega)) ?_
  refine load_at hO _ i15 (v := u64 x.a) rfl ?_
  refine right_spec (n := 2) hxo.a (by omega) (by omega) ?_
  refine opP_i (idxPtr_ok (by omega) (by omega)) ?_
  refine load_at hO _ i15 (v := u64 x.a) rfl ?_
  refine ⟨sm, ?_⟩
  refine right_spec (n := 13) hxo.a (by omega) (by omega) ?_
  refine opP_i (bin_xorU (k := .u64) rfl (lt64 b2) (lt64 b13)) ?_
  refine opP_i (idxPtr_ok (by omega) (by omega)) ?_
  refine load_at hO _ i15 (v := u64 x.a) rfl ?_
  refine ⟨sm, sm, ?_⟩
  refine right_spec (n := 22) hxo.a (by omega) (by omega) ?_
  refine opP_i (bin_xorU (k := .u64) rfl (lt64 (Nat.xor_lt_two_pow (n := 32) b2 b13)) (lt64 b22)) ?_
  rw [← turn3]
  have hS0 : turnN x.a [2, 13, 22] < 4294967296 := turnN_lt hxo.a
  have hd := hxo.d
  refine opP_i (add64 (by omega)) ?_
  refine opP_i (add64 (by omega)) ?_
  refine opP_i mod64 ?_
  refine opP_i (idxPtr_ok (by omega) (by omega)) ?_
  refine load_at hO _ i15 (v := u64 x.a) rfl ?_
  refine opP_i (idxPtr_ok (by omega) (by omega)) ?_
  refine load_at hO _ i15 (v := u64 x.b) rfl ?_
  refine opP_i (idxPtr_ok (by omega) (by omega)) ?_
  refine load_at hO _ i15 (v := u64 x.c) rfl ?_
  refine opP_i (idxPtr_ok (by omega) (by omega)) ?_
  refine load_at hO _ i15 (v := u64 x.d) rfl ?_
  refine opP_i (add64 (by omega)) ?_
  refine opP_i mod64 ?_
  refine opP_i (idxPtr_ok (by omega) (by omega)) ?_
  refine load_at hO _ i15 (v := u64 x.e) rfl ?_
  refine opP_i (idxPtr_ok (by omega) (by omega)) ?_
  refine load_at hO _ i15 (v := u64 x.f) rfl ?_
  refine opP_i (idxPtr_ok (by omega) (by omega)) ?_
  refine load_at hO _ i15 (v := u64 x.g) rfl ?_
  refine opP_i (b8 _ _ _ _ _ _ _ _) ?_
  refine storeAll_at hO _ i15 rfl rfl rfl ?_
  clear hO sm sm8 sm10
  intro H hO
  replace hO := hO.set_r
  have e1 : (x.h + turnN x.e [6, 11, 25] + chF x.e x.f x.g + kTab.getD y 0 + ws.getD y 0 + (turnN x.a [2, 13, 22] + majF x.a x.b x.c)) % 4294967296 = (t1F x (kTab.getD y 0) (ws.getD y 0) + t2F x) % 4294967296 := by
    unfold t1F t2F
    rw [← Nat.add_mod]
  have e2 : (x.d + (x.h + turnN x.e [6, 11, 25] + chF x.e x.f x.g + kTab.getD y 0 + ws.getD y 0)) % 4294967296 = (x.d + t1F x (kTab.getD y 0) (ws.getD y 0)) % 4294967296 := by
    unfold t1F
    rw [Nat.add_mod_mod]
  rw [e1, e2] at hO
  repeat (first | refine oi ?_ | refine ow ?_ | refine wy ?_ | refine wn ?_ | refine wt ?_ | refine wf' ?_ | refine cy ?_ | refine cn ?_)
  refine ⟨64 - (y + 1), by omega, y + 1, by omega, rfl, rfl, ?_⟩
  rw [er]
  exact hO
end J
set_option linter.unusedVariables false
set_option linter.unusedSimpArgs false
set_option maxRecDepth 100000
namespace J
open Go Go.Ab
variable [lp : LpC]
variable {H : Heap} {Γ Γ0 Γ2 Δ G : List (Nat × Blk)} {K : Value → Heap → Prop} {v w x : Value} {xs ys zs bs b data : List Int} {j p pd pz : Nat} {e : Int} {cs : List Value}
theorem bW64 : (buildC P 140).f [] = some (agg (wL [])) := by kernel_rfl
theorem zcR64 : zc P 140 = wL [] := by kernel_rfl
theorem zcR8 : zc P 138 = List.replicate 8 (u64 0) := by kernel_rfl
theorem first_spec (hO : St H Γ) (hk : ∀ H', St H' Γ → K (agg (l8 begW)) H') : wCall P n_ref02_first [] H K := by
  apply ref02_first_ok; unfold ref02_first
  rw [zcR8]
  refine new_at hO ?_
  clear hO
  intro p H hO
  refine opP_i (v := agg (l8 begW)) (by kernel_rfl) ?_
  refine storeAll_at hO (Γ.length + 0) (at_r rfl) rfl rfl rfl ?_
  clear hO
  intro H hO
  replace hO := hO.set_r
  refine loadAll_at hO (Γ.length + 0) (at_r rfl) rfl (by omega) ?_
  exact hk _ hO.left
theorem rounds_spec (hO : St H Γ) (hk : ∀ H', St H' Γ → K (agg (kTab.map fun (n : Nat) => u64 n)) H') : wCall P n_ref02_rounds [] H K := by
  apply ref02_rounds_ok; unfold ref02_rounds
  rw [zcR64]
  refine new_at hO ?_
  clear hO
  intro p H hO
  refine opP_i (v := agg (kTab.map fun (n : Nat) => u64 n)) (by kernel_rfl) ?_
  refine storeAll_at hO (Γ.length + 0) (at_r rfl) rfl rfl rfl ?_
  clear hO
  intro H hO
  replace hO := hO.set_r
  refine loadAll_at hO (Γ.length + 0) (at_r rfl) rfl (by omega) ?_
  exact hk _ hO.left
theorem w8_lt {s : W8} (h : s.Ok) : ∀ x ∈ s.l, x < 4294967296 := by
  intro x hx
  simp only [W8.l, List.mem_cons, List.not_mem_nil, or_false] at hx
  rcases hx with rfl | rfl | rfl | rfl | rfl | rfl | rfl | rfl
  · exact h.a
  · exact h.b
  · exact h.c
  · exact h.d
  · exact h.e
  · exact h.f
  · exact h.g
  · exact h.h
theorem r_L6 {s R : W8} {p2 p7 p8 p15 at' : Nat} {B : Blk} {T : List (Nat × Blk)} {Qx : Nat → List Value → Heap → Prop} {Qr : List Value → Heap → Prop} (hs : s.Ok) (hR : R.Ok) (i15 : T[1]? = some (p15, ⟨l8 R, true⟩))
    (hO : St H (Γ ++ ([(p7, ⟨l8 s, true⟩), (p8, B)] ++ T)))
    (hk : ∀ H', St H' (Γ ++ ([(p7, ⟨l8 (addW s R), true⟩), (p8, B)] ++ T)) → Qx 12 [ptr p2 0, v, ptr p7 0, ptr p8 0, int at'] H') :
    wLoop P true 252 ref02_Sum_P6 908 [ptr p2 0, v, ptr p7 0, ptr p8 0, int at', ptr p15 0, int 0] H Qx Qr := by
  refine ref02_Sum_L6_ind (fun k l' H' => ∃ (y : Nat), y ≤ 8 ∧ k = 8 - y ∧ l' = [ptr p2 0, v, ptr p7 0, ptr p8 0, int at', ptr p15 0, int y] ∧ St H' (Γ ++ ([(p7, ⟨(addL s.l R.l y).map fun (n : Nat) => u64 n, true⟩), (p8, B)] ++ T))) _ _ ?_ 8 _ _ ⟨0, by omega, rfl, rfl, hO⟩
  clear hO
  rintro k l' H ⟨y, hy, rfl, rfl, hO⟩
  unfold ref02_Sum_L6
  try simp only [nth_zero, nth_succ]
  have hls : s.l.length = 8 := rfl
  have hlR : R.l.length = 8 := rfl
  refine opP_i bin_lss ?_
  refine wIf_dec (fun h => ?_) (fun h => ?_)
  · have hy8 : y < 8 := by omega
    have b1 : s.l.getD y 0 < 4294967296 := getD_lt (w8_lt hs) y
    have b2 : R.l.getD y 0 < 4294967296 := getD_lt (w8_lt hR) y
    have a1 : ((addL s.l R.l y).map fun (n : Nat) => u64 n)[0 + y * 1]? = some (u64 (s.l.getD y 0)) := by
      rw [show 0 + y * 1 = y by omega, List.getElem?_map, addL_at (by omega), if_neg (by omega)]; rfl
    have a2 : (l8 R)[0 + y * 1]? = some (u64 (R.l.getD y 0)) := by
      unfold l8
      rw [show 0 + y * 1 = y by omega, List.getElem?_map, List.getElem?_eq_getElem (by omega), List.getD_eq_getElem?_getD, List.getElem?_eq_getElem (by omega)]; rfl
    have a3 : ((addL s.l R.l y).map fun (n : Nat) => u64 n).set (0 + y * 1) (u64 ((s.l.getD y 0 + R.l.getD y 0) % 4294967296)) = (addL s.l R.l (y + 1)).map fun (n : Nat) => u64 n := by
      rw [← addL_set (by omega), List.map_set, show 0 + y * 1 = y by omega]
    refine opP_i (idxPtr_ok (by omega) (by omega)) ?_
    rw [Int.toNat_natCast]
    refine load_at hO (Γ.length + 0) (at_r rfl) a1 ?_
    refine opP_i (idxPtr_ok (by omega) (by omega)) ?_
    rw [Int.toNat_natCast]
    refine load_at hO (Γ.length + (2 + 1)) (at_r (at_r (Γ := [_, _]) i15)) a2 ?_
    refine opP_i (add64 (by omega)) ?_
    refine opP_i mod64 ?_
    refine opP_i (idxPtr_ok (by omega) (by omega)) ?_
    rw [Int.toNat_natCast]
    refine store1_at hO (Γ.length + 0) (at_r rfl) rfl (set_nat a1) a3 ?_
    clear hO
    intro H hO
    replace hO := hO.set_r
    repeat (first | refine oi ?_ | refine ow ?_ | refine wy ?_ | refine wn ?_ | refine wt ?_ | refine wf' ?_ | refine cy ?_ | refine cn ?_)
    exact ⟨_, by omega, y + 1, by omega, rfl, rfl, hO⟩
  · have ey : y = 8 := by omega
    subst ey
    rw [addL_8] at hO
    exact hk _ hO
theorem r_L7 {s : W8} {p2 p7 p23 : Nat} {T : List (Nat × Blk)} {Qx : Nat → List Value → Heap → Prop} {Qr : List Value → Heap → Prop} (hs : s.Ok) {j7 : Nat} (h7 : Γ[j7]? = some (p7, ⟨l8 s, true⟩)) (hO : St H (Γ ++ [(p23, ⟨outC [], true⟩)]))
    (hk : ∀ H', St H' (Γ ++ [(p23, ⟨by8 (hashB s), true⟩)]) → Qx 14 [ptr p2 0, ptr p23 0] H') :
    wLoop P true 252 ref02_Sum_P7 8388612 [ptr p2 0, ptr p7 0, ptr p23 0, int 0] H Qx Qr := by
  refine ref02_Sum_L7_ind (fun k l' H' => ∃ (y : Nat), y ≤ 32 ∧ k = 32 - y ∧ l' = [ptr p2 0, ptr p7 0, ptr p23 0, int y] ∧ St H' (Γ ++ [(p23, ⟨outC ((hashB s).take y), true⟩)])) _ _ ?_ 32 _ _ ⟨0, by omega, rfl, rfl, hO⟩
  clear hO
  rintro k l' H ⟨y, hy, rfl, rfl, hO⟩
  unfold ref02_Sum_L7
  try simp only [nth_zero, nth_succ]
  refine opP_i bin_lss ?_
  refine wIf_dec (fun h => ?_) (fun h => ?_)
  · have hlen : ((hashB s).take y).length = y := by rw [List.length_take, hashB_len]; omega
    have hm : y / 4 < 8 := by omega
    have hi : y % 4 < 4 := by omega
    have a2 : (l8 s)[0 + y / 4 * 1]? = some (u64 (s.l.getD (y / 4) 0)) := by
      have hlR : s.l.length = 8 := rfl
      unfold l8
      rw [show 0 + y / 4 * 1 = y / 4 by omega, List.getElem?_map, List.getElem?_eq_getElem (by omega), List.getD_eq_getElem?_getD, List.getElem?_eq_getElem (by omega)]; rfl
    refine opP_i (quo_i (b := 4) (by omega) (by omega)) ?_
    refine opP_i (idxPtr_ok (by omega) (by omega)) ?_
    rw [Int.toNat_natCast]
    refine load_at hO j7 (at_l h7) a2 ?_
    refine opP_i (v := int ((y % 4 : Nat) : Int)) (bin_remU (k := .i64) (b := 4) (by decide)) ?_
    refine opP_i (v := int ((8 * (y % 4) : Nat) : Int)) (by rw [bin_muli (by omega) (by omega)]; congr 2 <;> omega) ?_
    refine opP_i (v := int ((24 - 8 * (y % 4) : Nat) : Int)) (by rw [bin_subi (by omega) (by omega)]; congr 2 <;> omega) ?_
    refine opP_i (bin_shrU (k := .u64) rfl (show 24 - 8 * (y % 4) ≤ 64 by omega)) ?_
    refine opP_i (bin_remU (k := .u64) (b := 256) (by decide)) ?_
    refine opW_i (cvU (k' := .u8) rfl) ?_
    refine opP_i (idxPtr_ok (by omega) (by omega)) ?_
    rw [Int.toNat_natCast]
    refine store1_at hO (Γ.length + 0) (at_r rfl) rfl (show 0 + y * 1 < (outC ((hashB s).take y)).length by rw [outC_len (by omega)]; omega) (show _ = outC ((hashB s).take (y + 1)) from ?_) ?_
    · have h1 := hash_step (s := s) hm hi
      rw [show 4 * (y / 4) + y % 4 = y by omega] at h1
      rw [← h1, ← outC_set (by omega), hlen, show 0 + y * 1 = y by omega]
      rw [show szU .u8 = 256 from rfl, Nat.mod_mod]
    clear hO
    intro H hO
    replace hO := hO.set_r
    repeat (first | refine oi ?_ | refine ow ?_ | refine wy ?_ | refine wn ?_ | refine wt ?_ | refine wf' ?_ | refine cy ?_ | refine cn ?_)
    exact ⟨32 - (y + 1), by omega, y + 1, by omega, rfl, rfl, hO⟩
  · have hy : y = 32 := by omega
    subst hy
    have e : outC ((hashB s).take 32) = by8 (hashB s) := by
      rw [List.take_of_length_le (by rw [hashB_len]; omega)]
      unfold outC
      rw [hashB_len, Nat.sub_self, List.replicate_zero, List.append_nil]
    rw [e] at hO
    exact hk H hO
theorem r_L0 {t0 : Value} {p2 : Nat} {Qx : Nat → List Value → Heap → Prop} {Qr : List Value → Heap → Prop} (hO : St H (Γ ++ outB v cs)) (hv : OwnB v (xs ++ [128]) cs) (hl : xs.length ≤ 90000000)
    (hk : ∀ H' v' cs', St H' (Γ ++ outB v' cs') → OwnB v' (xs ++ [128] ++ List.replicate (padZ xs.length) 0) cs' → Qx 0 [t0, ptr p2 0, v'] H') :
    wLoop P true 252 ref02_Sum_P0 13 [t0, ptr p2 0, v] H Qx Qr := by
  refine ref02_Sum_L0_ind (fun k l' H' => ∃ (y : Nat) (v : Value) (cs : List Value), y ≤ padZ xs.length ∧ k = padZ xs.length - y ∧ l' = [t0, ptr p2 0, v] ∧ St H' (Γ ++ outB v cs) ∧ OwnB v (xs ++ [128] ++ List.replicate y 0) cs) _ _ ?_ (padZ xs.length) _ _ ⟨0, v, cs, by omega, rfl, rfl, hO, by rw [List.replicate_zero, List.append_nil]; exact hv⟩
  clear hO hv
  rintro k l' H ⟨y, v, cs, hy, rfl, rfl, hO, hv⟩
  unfold ref02_Sum_L0
  try simp only [nth_zero, nth_succ]
  have hlen : (xs ++ [128] ++ List.replicate y (0 : Int)).length = xs.length + 1 + y := by simp; omega
  have hpz : padZ xs.length < 64 := Nat.mod_lt _ (by decide)
  refine opW_i hv.lenSl ?_
  refine opP_i (v := int (((xs ++ [128] ++ List.replicate y (0 : Int)).length % 64 : Nat) : Int)) (bin_remU (k := .i64) (b := 64) (by decide)) ?_
  rw [hlen]
  refine opP_i bin_neq ?_
  refine wIf_dec (fun h => ?_) (fun h => ?_)
  · have hlt : y < padZ xs.length := by
      unfold padZ at hy ⊢
      omega
    refine newSl_at hO (bsB1 0 _) ?_
    clear hO
    intro q H hO
    refine append_new (ys := [0]) hO hv (by rw [hlen]; simp; omega) rfl (.inr rfl) ?_
    clear hO hv
    intro H v cs hO hv
    rw [List.append_assoc _ (List.replicate y 0), ← List.replicate_succ'] at hv
    exact ⟨padZ xs.length - (y + 1), by omega, y + 1, v, cs, by omega, rfl, rfl, hO, hv⟩
  · have hy : y = padZ xs.length := by
      unfold padZ at hy ⊢
      omega
    subst hy
    exact hk H v cs hO hv
theorem fac_at : ∀ y, y < 8 → 72057594037927936 / 256 ^ y = 2 ^ (56 - 8 * y) := by decide
theorem r_L1 {p2 n : Nat} {Qx : Nat → List Value → Heap → Prop} {Qr : List Value → Heap → Prop} (hO : St H (Γ ++ outB v cs)) (hv : OwnB v zs cs) (hl : zs.length ≤ 95000000) (hn : n < 18446744073709551616)
    (hk : ∀ H' v' cs', St H' (Γ ++ outB v' cs') → OwnB v' (zs ++ be8 n) cs' → Qx 2 [ptr p2 0, v'] H') :
    wLoop P true 252 ref02_Sum_P1 12 [ptr p2 0, v, uint .u64 n, .int .u64 72057594037927936, int 0] H Qx Qr := by
  refine ref02_Sum_L1_ind (fun k l' H' => ∃ (y : Nat) (v : Value) (cs : List Value), y ≤ 8 ∧ k = 8 - y ∧ l' = [ptr p2 0, v, uint .u64 n, uint .u64 (72057594037927936 / 256 ^ y), int y] ∧ St H' (Γ ++ outB v cs) ∧ OwnB v (zs ++ (be8 n).take y) cs) _ _ ?_ 8 _ _ ⟨0, v, cs, by omega, rfl, rfl, hO, by rw [List.take_zero, List.append_nil]; exact hv⟩
  clear hO hv
  rintro k l' H ⟨y, v, cs, hy, rfl, rfl, hO, hv⟩
  unfold ref02_Sum_L1
  try simp only [nth_zero, nth_succ]
  refine opP_i bin_lss ?_
  refine wIf_dec (fun h => ?_) (fun h => ?_)
  · have hy8 : y < 8 := by omega
    have hf := fac_at y hy8
    have hp : 0 < 2 ^ (56 - 8 * y) := Nat.two_pow_pos _
    refine opP_i (bin_quoU (k := .u64) rfl (by rw [hf]; exact hp) hn) ?_
    rw [hf]
    refine opP_i (bin_remU (k := .u64) (b := 256) (by decide)) ?_
    refine opW_i (cvU (k' := .u8) rfl) ?_
    rw [show szU .u8 = 256 from rfl, Nat.mod_mod]
    refine newSl_at hO (bsB1 _ _) ?_
    clear hO
    intro q H hO
    refine append_new (ys := [((n / 2 ^ (56 - 8 * y) % 256 : Nat) : Int)]) hO hv (by rw [List.length_append, List.length_take]; simp; omega) rfl (.inr rfl) ?_
    clear hO hv
    intro H v cs hO hv
    have e : (be8 n).take y ++ [((n / 2 ^ (56 - 8 * y) % 256 : Nat) : Int)] = (be8 n).take (y + 1) := by
      rw [List.take_add_one, be8_at hy8]; rfl
    rw [List.append_assoc, e] at hv
    have hb : 2 ^ (56 - 8 * y) < szU .u64 := Nat.lt_of_le_of_lt (Nat.pow_le_pow_right (by omega) (show 56 - 8 * y ≤ 56 by omega)) (by decide)
    refine opP_i (bin_quoU (k := .u64) (b := 256) rfl (by decide) hb) ?_
    repeat (first | refine oi ?_ | refine ow ?_ | refine wy ?_ | refine wn ?_ | refine wt ?_ | refine wf' ?_ | refine cy ?_ | refine cn ?_)
    refine ⟨8 - (y + 1), by omega, y + 1, v, cs, by omega, rfl, ?_, hO, hv⟩
    rw [← hf, Nat.div_div_eq_div_mul, ← Nat.pow_succ]
    rfl
  · have hy : y = 8 := by omega
    subst hy
    rw [List.take_of_length_le (by rw [be8_len]; omega)] at hv
    exact hk H v cs hO hv
theorem r_L2 {p2 p7 p8 : Nat} {Qx : Nat → List Value → Heap → Prop} {Qr : List Value → Heap → Prop} (hv : RdB Γ v data) (hb : ∀ x ∈ data, 0 ≤ x ∧ x ≤ 255) (hm : data.length % 64 = 0) (hl : data.length ≤ 1000000000)
    (hO : St H (Γ ++ [(p7, ⟨l8 begW, true⟩), (p8, ⟨kTab.map fun (n : Nat) => u64 n, true⟩)]))
    (hk : ∀ H', St H' (Γ ++ [(p7, ⟨l8 (dSt data), true⟩), (p8, ⟨kTab.map fun (n : Nat) => u64 n, true⟩)]) → Qx 4 [ptr p2 0, ptr p7 0] H') :
    wLoop P true 252 ref02_Sum_P2 132 [ptr p2 0, v, ptr p7 0, ptr p8 0, int 0] H Qx Qr := by
  refine ref02_Sum_L2_ind (fun k l' H' => ∃ (y : Nat), 64 * y ≤ data.length ∧ k = data.length / 64 - y ∧ l' = [ptr p2 0, v, ptr p7 0, ptr p8 0, int ((64 * y : Nat) : Int)] ∧ St H' (Γ ++ [(p7, ⟨l8 (stN data y), true⟩), (p8, ⟨kTab.map fun (n : Nat) => u64 n, true⟩)])) _ _ ?_ (data.length / 64) _ _ ⟨0, by omega, rfl, rfl, hO⟩
  clear hO
  rintro k l' H ⟨y, hy, rfl, rfl, hO⟩
  unfold ref02_Sum_L2
  try simp only [nth_zero, nth_succ]
  refine opW_i hv.lenSl ?_
  refine opP_i bin_lss ?_
  refine wIf_dec (fun h => ?_) (fun h => ?_)
  · have hy64 : 64 * y + 64 ≤ data.length := by omega
    have hbb : ∀ x ∈ (data.drop (64 * y)).take 64, 0 ≤ x ∧ x ≤ 255 := fun x hx => hb x (List.mem_of_mem_drop (List.mem_of_mem_take hx))
    refine opP_i bW64 ?_
    rw [zcR64]
    refine new_at hO ?_
    clear hO
    intro p10 H hO
    refine storeAll_at hO (_ + 0) (at_r rfl) rfl rfl rfl ?_
    clear hO
    intro H hO
    replace hO := hO.set_r
    refine r_L3 hv.app hb hy64 hl hO ?_
    clear hO
    intro H hO
    refine cond_yes rfl ?_
    try simp only [nth_zero, nth_succ]
    refine loadAll_at hO (Γ.length + 0) (at_l (at_r rfl)) rfl (by omega) ?_
    rw [zcR8]
    refine new_at hO ?_
    clear hO
    intro p15 H hO
    refine storeAll_at hO (_ + 0) (at_r rfl) rfl rfl rfl ?_
    clear hO
    intro H hO
    replace hO := hO.set_r
    refine r_L5 (s := stN data y) (ws := wUp ((data.drop (64 * y)).take 64) 64) (stN_ok y) (wUp_lt hbb 64) (wUp_len 64) (j8 := Γ.length + 1) (j10 := _ + 0) (at_l (at_r rfl)) (at_r rfl) hO ?_
    clear hO
    intro H hO
    refine cond_yes rfl ?_
    try simp only [nth_zero, nth_succ]
    rw [List.append_assoc, List.append_assoc] at hO
    refine r_L6 (s := stN data y) (R := rndN (wUp ((data.drop (64 * y)).take 64) 64) (stN data y) 64) (T := [(p10, _), (p15, _)]) (stN_ok y) (rndN_ok (stN_ok y) 64) rfl hO ?_
    clear hO
    intro H hO
    refine cond_yes rfl ?_
    try simp only [nth_zero, nth_succ]
    refine opP_i (v := int ((64 * (y + 1) : Nat) : Int)) (by rw [bin_addi (by omega) (by omega)]; congr 2 <;> omega) ?_
    refine ⟨data.length / 64 - (y + 1), by omega, y + 1, by omega, rfl, rfl, ?_⟩
    rw [← List.append_assoc] at hO
    exact hO.left
  · have ey : y = data.length / 64 := by omega
    subst ey
    exact hk _ hO
set_option maxHeartbeats 1000000 in
theorem rSum_spec (hO : St H Γ) (hx : RdB Γ x xs) (hb : ∀ x ∈ xs, 0 ≤ x ∧ x ≤ 255) (hl : xs.length ≤ 80000000) (hk : ∀ H', St H' Γ → K (agg (by8 (sha xs))) H') : wCall P n_ref02_Sum [x] H K := by
  apply ref02_Sum_ok; unfold ref02_Sum
  rw [zcB32]
  refine new_at hO ?_
  clear hO
  intro p2 H hO
  refine newSl_at hO (bs46_0 _) ?_
  clear hO
  intro q H hO
  refine append_by (v := sl q 0 0 3) (cs := []) (xs := []) hO (.inr ⟨q, .inr ⟨rfl, rfl⟩, rfl, Nat.le_refl _, rfl⟩) hx.app (by simp; omega) ?_
  clear hO
  intro H v cs hO hv
  refine newSl_at hO (bsB1 128 _) ?_
  clear hO
  intro q2 H hO
  refine append_new (ys := [128]) hO hv (by simp; omega) rfl (.inr rfl) ?_
  clear hO hv
  intro H v cs hO hv
  refine r_L0 (xs := xs) hO hv (by omega) ?_
  clear hO hv
  intro H v cs hO hv
  refine cond_yes rfl ?_
  try simp only [nth_zero, nth_succ]
  have hpz : padZ xs.length < 64 := Nat.mod_lt _ (by decide)
  have hpl := padB_len (xs := xs)
  have hpb : ∀ x ∈ padB xs, 0 ≤ x ∧ x ≤ 255 := by_app (by_app (by_app hb (u8_by (by decide))) rep_by) be8_by
  have hpm : (padB xs).length ≤ 1000000000 := by
    unfold padB
    rw [List.length_append, List.length_append, List.length_append, List.length_replicate, be8_len]
    show xs.length + 1 + padZ xs.length + 8 ≤ _
    omega
  refine opW_i hx.lenSl ?_
  refine opW_i (cvIU (by omega) (by omega)) ?_
  rw [Int.toNat_natCast]
  refine opP_i (v := uint .u64 (8 * xs.length)) (by
    rw [show (Value.int .u64 8) = uint .u64 8 from rfl, bin_mulU (k := .u64) rfl, Nat.mod_eq_of_lt (show xs.length * 8 < szU .u64 from (show _ < 18446744073709551616 by omega)), Nat.mul_comm]) ?_
  refine r_L1 hO hv (by simp; omega) (by omega) ?_
  clear hO hv
  intro H v cs hO hv
  replace hv : OwnB v (padB xs) cs := hv
  refine cond_yes rfl ?_
  try simp only [nth_zero, nth_succ]
  refine first_spec hO ?_
  clear hO
  intro H hO
  refine rounds_spec hO ?_
  clear hO
  intro H hO
  rw [zcR8, zcR64]
  refine new_at hO ?_
  clear hO
  intro p7 H hO
  refine new_at hO ?_
  clear hO
  intro p8 H hO
  rw [List.append_assoc _ [_] [_]] at hO
  refine storeAll_at hO (_ + 0) (at_r (L := [_] ++ [_]) rfl) rfl rfl rfl ?_
  clear hO
  intro H hO
  replace hO := hO.set_r
  refine storeAll_at hO (_ + 1) (at_r (L := [_, _]) rfl) rfl rfl rfl ?_
  clear hO
  intro H hO
  replace hO := hO.set_r
  refine r_L2 (data := padB xs) hv.rd.app' hpb hpl hpm hO ?_
  clear hO
  intro H hO
  refine cond_yes rfl ?_
  try simp only [nth_zero, nth_succ]
  refine opP_i (v := agg (outC [])) (by kernel_rfl) ?_
  rw [show List.replicate 32 (uint .u8 0) = outC [] from rfl] at hO ⊢
  refine new_at hO ?_
  clear hO
  intro p23 H hO
  refine storeAll_at hO (_ + 0) (at_r rfl) rfl rfl rfl ?_
  clear hO
  intro H hO
  replace hO := hO.set_r
  refine r_L7 (s := dSt (padB xs)) (T := []) (stN_ok _) (j7 := _ + 0) (at_r (L := [_, _]) rfl) hO ?_
  clear hO
  intro H hO
  refine cond_yes rfl ?_
  try simp only [nth_zero, nth_succ]
  refine loadAll_at hO (_ + 0) (at_r rfl) rfl (by omega) ?_
  refine storeAll_at hO (Γ.length + 0) (at_l (at_l (at_l (at_r rfl)))) rfl rfl (by8_one _) ?_
  clear hO
  intro H hO
  rw [List.set_append_left _ _ (by simp), List.set_append_left _ _ (by simp), List.set_append_left _ _ (by simp), Go.Ab.set_r] at hO
  refine loadAll_at hO (Γ.length + 0) (at_l (at_l (at_l (at_r rfl)))) rfl (by omega) ?_
  exact hk H hO.left.left.left.left
end J
set_option linter.unusedVariables false
set_option linter.unusedSimpArgs false
set_option linter.unusedSectionVars false
set_option maxRecDepth 100000
namespace J
open Go Go.Ab
noncomputable section
def rK (ks : List Nat) : Nat → Nat → Nat → Nat → Nat → Nat → Nat → Nat → Nat → Nat → Nat → Nat → Nat → Nat → Nat → Nat → Nat → Nat → Nat → Nat → Nat → Nat → Nat → Nat → W8 :=
  List.rec (motive := fun _ => Nat → Nat → Nat → Nat → Nat → Nat → Nat → Nat → Nat → Nat → Nat → Nat → Nat → Nat → Nat → Nat → Nat → Nat → Nat → Nat → Nat → Nat → Nat → Nat → W8) (fun a b c d e f g h _ _ _ _ _ _ _ _ _ _ _ _ _ _ _ _ => ⟨a, b, c, d, e, f, g, h⟩)
    (fun k _ ih a b c d e f g h w0 w1 w2 w3 w4 w5 w6 w7 w8 w9 w10 w11 w12 w13 w14 w15 => fo (Nat.mod (Nat.add (Nat.add (Nat.add (Nat.add h (Nat.xor (Nat.xor (Nat.lor (Nat.div e 64) (Nat.mod (Nat.mul e 67108864) 4294967296)) (Nat.lor (Nat.div e 2048) (Nat.mod (Nat.mul e 2097152) 4294967296))) (Nat.lor (Nat.div e 33554432) (Nat.mod (Nat.mul e 128) 4294967296)))) (Nat.xor (Nat.land e f) (Nat.land (Nat.sub 4294967295 e) g))) k) w0) 4294967296) fun t1 => fo (Nat.mod (Nat.add t1 (Nat.mod (Nat.add (Nat.xor (Nat.xor (Nat.lor (Nat.div a 4) (Nat.mod (Nat.mul a 1073741824) 4294967296)) (Nat.lor (Nat.div a 8192) (Nat.mod (Nat.mul a 524288) 4294967296))) (Nat.lor (Nat.div a 4194304) (Nat.mod (Nat.mul a 1024) 4294967296))) (Nat.xor (Nat.xor (Nat.land a b) (Nat.land a c)) (Nat.land b c))) 4294967296)) 4294967296) fun a' => fo (Nat.mod (Nat.add d t1) 4294967296) fun e' => fo (Nat.mod (Nat.add (Nat.add (Nat.add w0 (Nat.xor (Nat.xor (Nat.lor (Nat.div w1 128) (Nat.mod (Nat.mul w1 33554432) 4294967296)) (Nat.lor (Nat.div w1 262144) (Nat.mod (Nat.mul w1 16384) 4294967296))) (Nat.div w1 8))) w9) (Nat.xor (Nat.xor (Nat.lor (Nat.div w14 131072) (Nat.mod (Nat.mul w14 32768) 4294967296)) (Nat.lor (Nat.div w14 524288) (Nat.mod (Nat.mul w14 8192) 4294967296))) (Nat.div w14 1024))) 4294967296) fun w' => ih a' a b c e' e f g w1 w2 w3 w4 w5 w6 w7 w8 w9 w10 w11 w12 w13 w14 w15 w') ks
def takeW (l : List Int) (k : Nat → List Int → W8) : W8 := match l with
  | a :: b :: c :: d :: r => fo (Nat.add (Nat.add (Nat.add (Nat.mul 16777216 a.toNat) (Nat.mul 65536 b.toNat)) (Nat.mul 256 c.toNat)) d.toNat) fun w => k w r
  | _ => begW
def finK (s x : W8) : W8 := match x with | ⟨xa, xb, xc, xd, xe, xf, xg, xh⟩ => fo (Nat.mod (Nat.add s.a xa) 4294967296) fun a => fo (Nat.mod (Nat.add s.b xb) 4294967296) fun b => fo (Nat.mod (Nat.add s.c xc) 4294967296) fun c => fo (Nat.mod (Nat.add s.d xd) 4294967296) fun d => fo (Nat.mod (Nat.add s.e xe) 4294967296) fun e => fo (Nat.mod (Nat.add s.f xf) 4294967296) fun f => fo (Nat.mod (Nat.add s.g xg) 4294967296) fun g => fo (Nat.mod (Nat.add s.h xh) 4294967296) fun h => ⟨a, b, c, d, e, f, g, h⟩
def mixK (s : W8) (l : List Int) : W8 :=
  takeW l fun w0 l => takeW l fun w1 l => takeW l fun w2 l => takeW l fun w3 l => takeW l fun w4 l => takeW l fun w5 l => takeW l fun w6 l => takeW l fun w7 l => takeW l fun w8 l => takeW l fun w9 l => takeW l fun w10 l => takeW l fun w11 l => takeW l fun w12 l => takeW l fun w13 l => takeW l fun w14 l => takeW l fun w15 l => finK s (rK kTab s.a s.b s.c s.d s.e s.f s.g s.h w0 w1 w2 w3 w4 w5 w6 w7 w8 w9 w10 w11 w12 w13 w14 w15)
def stK (n : Nat) : W8 → List Int → W8 := Nat.rec (motive := fun _ => W8 → List Int → W8) (fun s _ => s) (fun _ ih s l => match mixK s l with
  | ⟨a, b, c, d, e, f, g, h⟩ => ih ⟨a, b, c, d, e, f, g, h⟩ (dropN l 64)) n
section
variable {b : List Int} {s : W8}
def wsq (b : List Int) (t : Nat) : Nat := (wUp b (t + 1)).getD t 0
theorem wUpL (b : List Int) : ∀ n, (wUp b n).length = n
  | 0 => rfl
  | n + 1 => by show (wUp b n ++ [_]).length = _; simp [wUpL b n]
theorem wUpG : ∀ (n t : Nat), t < n → (wUp b n).getD t 0 = wsq b t
  | 0, t, h => by omega
  | n + 1, t, h => by
    by_cases e : t = n
    · subst e; rfl
    · have ih := wUpG n t (by omega)
      rw [← ih]
      show (wUp b n ++ [_]).getD t 0 = _
      rw [List.getD_eq_getElem?_getD, List.getElem?_append_left (by rw [wUpL]; omega), ← List.getD_eq_getElem?_getD]
theorem wsq_eq (t : Nat) : wsq b t = wNext b (wUp b t) t := by
  show (wUp b t ++ [wNext b (wUp b t) t]).getD t 0 = _
  rw [List.getD_eq_getElem?_getD, List.getElem?_append_right (by rw [wUpL]; omega), wUpL, Nat.sub_self]
  rfl
theorem wsq_low {t : Nat} (h : t < 16) : wsq b t = wWord b t := by rw [wsq_eq]; unfold wNext; rw [if_pos h]
theorem wsq_high (t : Nat) : wsq b (t + 16) = (Nat.mod (Nat.add (Nat.add (Nat.add (wsq b t) (Nat.xor (Nat.xor (Nat.lor (Nat.div (wsq b (t + 1)) 128) (Nat.mod (Nat.mul (wsq b (t + 1)) 33554432) 4294967296)) (Nat.lor (Nat.div (wsq b (t + 1)) 262144) (Nat.mod (Nat.mul (wsq b (t + 1)) 16384) 4294967296))) (Nat.div (wsq b (t + 1)) 8))) (wsq b (t + 9))) (Nat.xor (Nat.xor (Nat.lor (Nat.div (wsq b (t + 14)) 131072) (Nat.mod (Nat.mul (wsq b (t + 14)) 32768) 4294967296)) (Nat.lor (Nat.div (wsq b (t + 14)) 524288) (Nat.mod (Nat.mul (wsq b (t + 14)) 8192) 4294967296))) (Nat.div (wsq b (t + 14)) 1024))) 4294967296) := by
  rw [wsq_eq]
  unfold wNext
  rw [if_neg (by omega), show t + 16 - 16 = t by omega, show t + 16 - 15 = t + 1 by omega, show t + 16 - 7 = t + 9 by omega, show t + 16 - 2 = t + 14 by omega,
    wUpG _ _ (by omega), wUpG _ _ (by omega), wUpG _ _ (by omega), wUpG _ _ (by omega)]
  simp only [turnN, List.foldl, Nat.zero_xor]
  rfl
theorem kTab_len : kTab.length = 64 := by rfl
theorem rK_cons (k : Nat) (ks : List Nat) (a b c d e f g h w0 w1 w2 w3 w4 w5 w6 w7 w8 w9 w10 w11 w12 w13 w14 w15 : Nat) : rK (k :: ks) a b c d e f g h w0 w1 w2 w3 w4 w5 w6 w7 w8 w9 w10 w11 w12 w13 w14 w15 = fo (Nat.mod (Nat.add (Nat.add (Nat.add (Nat.add h (Nat.xor (Nat.xor (Nat.lor (Nat.div e 64) (Nat.mod (Nat.mul e 67108864) 4294967296)) (Nat.lor (Nat.div e 2048) (Nat.mod (Nat.mul e 2097152) 4294967296))) (Nat.lor (Nat.div e 33554432) (Nat.mod (Nat.mul e 128) 4294967296)))) (Nat.xor (Nat.land e f) (Nat.land (Nat.sub 4294967295 e) g))) k) w0) 4294967296) fun t1 => fo (Nat.mod (Nat.add t1 (Nat.mod (Nat.add (Nat.xor (Nat.xor (Nat.lor (Nat.div a 4) (Nat.mod (Nat.mul a 1073741824) 4294967296)) (Nat.lor (Nat.div a 8192) (Nat.mod (Nat.mul a 524288) 4294967296))) (Nat.lor (Nat.div a 4194304) (Nat.mod (Nat.mul a 1024) 4294967296))) (Nat.xor (Nat.xor (Nat.land a b) (Nat.land a c)) (Nat.land b c))) 4294967296)) 4294967296) fun a' => fo (Nat.mod (Nat.add d t1) 4294967296) fun e' => fo (Nat.mod (Nat.add (Nat.add (Nat.add w0 (Nat.xor (Nat.xor (Nat.lor (Nat.div w1 128) (Nat.mod (Nat.mul w1 33554432) 4294967296)) (Nat.lor (Nat.div w1 262144) (Nat.mod (Nat.mul w1 16384) 4294967296))) (Nat.div w1 8))) w9) (Nat.xor (Nat.xor (Nat.lor (Nat.div w14 131072) (Nat.mod (Nat.mul w14 32768) 4294967296)) (Nat.lor (Nat.div w14 524288) (Nat.mod (Nat.mul w14 8192) 4294967296))) (Nat.div w14 1024))) 4294967296) fun w' => rK ks a' a b c e' e f g w1 w2 w3 w4 w5 w6 w7 w8 w9 w10 w11 w12 w13 w14 w15 w' := rfl
theorem rK_eq : ∀ (ks : List Nat) (t : Nat), kTab.drop t = ks → t ≤ 64 → rK ks (rndN (wUp b 64) s t).a (rndN (wUp b 64) s t).b (rndN (wUp b 64) s t).c (rndN (wUp b 64) s t).d (rndN (wUp b 64) s t).e (rndN (wUp b 64) s t).f (rndN (wUp b 64) s t).g (rndN (wUp b 64) s t).h (wsq b t) (wsq b (t + 1)) (wsq b (t + 2)) (wsq b (t + 3)) (wsq b (t + 4)) (wsq b (t + 5)) (wsq b (t + 6)) (wsq b (t + 7)) (wsq b (t + 8)) (wsq b (t + 9)) (wsq b (t + 10)) (wsq b (t + 11)) (wsq b (t + 12)) (wsq b (t + 13)) (wsq b (t + 14)) (wsq b (t + 15)) = rndN (wUp b 64) s 64
  | [], t, h, ht => by
    have := congrArg List.length h
    rw [List.length_drop, kTab_len] at this
    simp only [List.length_nil] at this
    obtain rfl : t = 64 := by omega
    rfl
  | k :: ks, t, h, ht => by
    have hl := congrArg List.length h
    rw [List.length_drop, kTab_len] at hl
    simp only [List.length_cons] at hl
    have hk : kTab.getD t 0 = k := by
      have : (kTab.drop t)[0]? = some k := by rw [h]; rfl
      rw [List.getElem?_drop] at this
      rw [List.getD_eq_getElem?_getD]
      simp only [Nat.add_zero] at this
      rw [this]; rfl
    have hd : kTab.drop (t + 1) = ks := by
      have : (kTab.drop t).drop 1 = ks := by rw [h]; rfl
      rwa [List.drop_drop] at this
    have ih := rK_eq ks (t + 1) hd (by omega)
    have ex : rndN (wUp b 64) s (t + 1) = rndF (rndN (wUp b 64) s t) k (wsq b t) := by
      show rndF (rndN (wUp b 64) s t) (kTab.getD t 0) ((wUp b 64).getD t 0) = _
      rw [hk, wUpG _ _ (by omega)]
    rw [ex] at ih
    generalize rndN (wUp b 64) s t = x at ih ⊢
    obtain ⟨a, b', c, d, e, f, g, h'⟩ := x
    rw [rK_cons]
    simp only [fo_eq]
    have e1 : t1F ⟨a, b', c, d, e, f, g, h'⟩ k (wsq b t) = (Nat.mod (Nat.add (Nat.add (Nat.add (Nat.add h' (Nat.xor (Nat.xor (Nat.lor (Nat.div e 64) (Nat.mod (Nat.mul e 67108864) 4294967296)) (Nat.lor (Nat.div e 2048) (Nat.mod (Nat.mul e 2097152) 4294967296))) (Nat.lor (Nat.div e 33554432) (Nat.mod (Nat.mul e 128) 4294967296)))) (Nat.xor (Nat.land e f) (Nat.land (Nat.sub 4294967295 e) g))) k) (wsq b t)) 4294967296) := by
      simp only [t1F, turnN, List.foldl, Nat.zero_xor]; rfl
    have e2 : t2F ⟨a, b', c, d, e, f, g, h'⟩ = (Nat.mod (Nat.add (Nat.xor (Nat.xor (Nat.lor (Nat.div a 4) (Nat.mod (Nat.mul a 1073741824) 4294967296)) (Nat.lor (Nat.div a 8192) (Nat.mod (Nat.mul a 524288) 4294967296))) (Nat.lor (Nat.div a 4194304) (Nat.mod (Nat.mul a 1024) 4294967296))) (Nat.xor (Nat.xor (Nat.land a b') (Nat.land a c)) (Nat.land b' c))) 4294967296) := by
      simp only [t2F, turnN, List.foldl, Nat.zero_xor]; rfl
    have e3 := wsq_high (b := b) t
    rw [← e1, ← e2, ← e3]
    exact ih
theorem getD_drop (l : List Int) (n k : Nat) : (l.drop n).getD k 0 = l.getD (n + k) 0 := by
  rw [List.getD_eq_getElem?_getD, List.getElem?_drop, ← List.getD_eq_getElem?_getD]
theorem wW {l : List Int} {n : Nat} (i : Nat) (h : n = 4 * i) : wWord (l.drop n) 0 = wWord l i := by
  subst h; unfold wWord; rw [getD_drop, getD_drop, getD_drop, getD_drop]; simp
theorem takeW_eq {l : List Int} {k : Nat → List Int → W8} (h : 4 ≤ l.length) : takeW l k = k (wWord l 0) (l.drop 4) := by
  match l, h with
  | a :: b :: c :: d :: r, _ =>
    show fo _ (fun w => k w r) = _
    rw [fo_eq]; rfl
theorem wWord_take {l : List Int} {i : Nat} (h : i < 16) : wWord (l.take 64) i = wWord l i := by
  unfold wWord
  have e : ∀ k, k < 64 → (l.take 64).getD k 0 = l.getD k 0 := fun k hk => by
    rw [List.getD_eq_getElem?_getD, List.getElem?_take, if_pos hk, ← List.getD_eq_getElem?_getD]
  rw [e _ (by omega), e _ (by omega), e _ (by omega), e _ (by omega)]
theorem mixK_1 {l : List Int} (h : 64 ≤ l.length) : mixK s l = finK s (rK kTab s.a s.b s.c s.d s.e s.f s.g s.h (wWord l 0) (wWord l 1) (wWord l 2) (wWord l 3) (wWord l 4) (wWord l 5) (wWord l 6) (wWord l 7) (wWord l 8) (wWord l 9) (wWord l 10) (wWord l 11) (wWord l 12) (wWord l 13) (wWord l 14) (wWord l 15)) := by
  unfold mixK
  rw [takeW_eq (by omega)]
  rw [takeW_eq (by simp only [List.length_drop]; omega)]
  rw [takeW_eq (by simp only [List.length_drop]; omega)]
  rw [takeW_eq (by simp only [List.length_drop]; omega)]
  rw [takeW_eq (by simp only [List.length_drop]; omega)]
  rw [takeW_eq (by simp only [List.length_drop]; omega)]
  rw [takeW_eq (by simp only [List.length_drop]; omega)]
  rw [takeW_eq (by simp only [List.length_drop]; omega)]
  rw [takeW_eq (by simp only [List.length_drop]; omega)]
  rw [takeW_eq (by simp only [List.length_drop]; omega)]
  rw [takeW_eq (by simp only [List.length_drop]; omega)]
  rw [takeW_eq (by simp only [List.length_drop]; omega)]
  rw [takeW_eq (by simp only [List.length_drop]; omega)]
  rw [takeW_eq (by simp only [List.length_drop]; omega)]
  rw [takeW_eq (by simp only [List.length_drop]; omega)]
  rw [takeW_eq (by simp only [List.length_drop]; omega)]
  simp only [List.drop_drop, Nat.reduceAdd]
  rw [wW 1 rfl, wW 2 rfl, wW 3 rfl, wW 4 rfl, wW 5 rfl, wW 6 rfl, wW 7 rfl, wW 8 rfl, wW 9 rfl, wW 10 rfl, wW 11 rfl, wW 12 rfl, wW 13 rfl, wW 14 rfl, wW 15 rfl]
theorem finK_eq (x : W8) : finK s x = addW s x := by
  obtain ⟨a, b, c, d, e, f, g, h⟩ := x
  unfold finK
  simp only [fo_eq]
  rfl
theorem mixK_eq {l : List Int} (h : 64 ≤ l.length) : mixK s l = mixF s (l.take 64) := by
  rw [mixK_1 h, finK_eq]
  have e : ∀ i, i < 16 → wWord l i = wsq (l.take 64) i := fun i hi => by rw [wsq_low hi, wWord_take hi]
  rw [e 0 (by decide), e 1 (by decide), e 2 (by decide), e 3 (by decide), e 4 (by decide), e 5 (by decide), e 6 (by decide), e 7 (by decide), e 8 (by decide), e 9 (by decide), e 10 (by decide), e 11 (by decide), e 12 (by decide), e 13 (by decide), e 14 (by decide), e 15 (by decide)]
  have := rK_eq (b := l.take 64) (s := s) kTab 0 rfl (by decide)
  rw [show rndN (wUp (l.take 64) 64) s 0 = s from rfl] at this
  simp only [Nat.zero_add] at this
  rw [this]
  rfl
theorem stK_eq (xs : List Int) : ∀ (m n : Nat), 64 * (n + m) ≤ xs.length → stK m (stN xs n) (xs.drop (64 * n)) = stN xs (n + m)
  | 0, n, _ => rfl
  | m + 1, n, h => by
    have ih := stK_eq xs m (n + 1) (by omega)
    show (match mixK (stN xs n) (xs.drop (64 * n)) with | ⟨a, b, c, d, e, f, g, h⟩ => stK m ⟨a, b, c, d, e, f, g, h⟩ (dropN (xs.drop (64 * n)) 64)) = _
    rw [mixK_eq (by rw [List.length_drop]; omega), dropN_eq, List.drop_drop]
    rw [show 64 * n + 64 = 64 * (n + 1) by omega, show n + (m + 1) = n + 1 + m by omega, ← ih]
    rfl
def inL {α : Type} (l : List Int) : (List Int → α) → α :=
  List.rec (motive := fun _ => (List Int → α) → α) (fun c => c []) (fun x _ ih c => fo x.toNat fun x => ih fun r => c (Int.ofNat x :: r)) l
def outL {α : Type} (k : IntKind) (l : List Nat) : (List Value → α) → α :=
  List.rec (motive := fun _ => (List Value → α) → α) (fun c => c []) (fun x _ ih c => fo x fun x => ih fun r => c (Value.int k (Int.ofNat x) :: r)) l
theorem inL_eq {α : Type} : ∀ (l : List Int) (k : List Int → α), (∀ x ∈ l, 0 ≤ x) → inL l k = k l
  | [], _, _ => rfl
  | x :: r, k, h => by
    show fo x.toNat (fun x => inL r fun r => k (Int.ofNat x :: r)) = _
    rw [fo_eq, inL_eq r _ (fun y hy => h y (List.mem_cons_of_mem _ hy))]
    rw [show Int.ofNat x.toNat = x from Int.toNat_of_nonneg (h x (.head _))]
theorem outL_eq {α : Type} (i : IntKind) : ∀ (l : List Nat) (k : List Value → α), outL i l k = k (l.map fun x => Value.int i (Int.ofNat x))
  | [], _ => rfl
  | x :: r, k => by
    show fo x (fun x => outL i r fun r => k (Value.int i (Int.ofNat x) :: r)) = _
    rw [fo_eq, outL_eq i r]; rfl
def b4 (w : Nat) : List Nat := [Nat.mod (Nat.div w 16777216) 256, Nat.mod (Nat.div w 65536) 256, Nat.mod (Nat.div w 256) 256, Nat.mod w 256]
def w8L (s : W8) : List Nat := match s with | ⟨a, b, c, d, e, f, g, h⟩ => [a, b, c, d, e, f, g, h]
def stT (xs : List Int) : List Nat := (w8L (stK (Nat.div (lenN xs) 64) begW xs)).flatMap b4
theorem stT_eq (xs : List Int) : (stT xs).map (fun x => Value.int .u8 (Int.ofNat x)) = by8 (hashB (dSt xs)) := by
  unfold stT hashB dSt
  have := stK_eq xs (xs.length / 64) 0 (by omega)
  rw [Nat.zero_add, Nat.mul_zero] at this
  rw [lenN_eq, show stK (Nat.div xs.length 64) begW xs = stN xs (xs.length / 64) from this]
  generalize stN xs (xs.length / 64) = s
  obtain ⟨a, b, c, d, e, f, g, h⟩ := s
  rfl
theorem be8_nn (n : Nat) : ∀ x ∈ be8 n, 0 ≤ x := by
  intro x hx
  obtain ⟨i, _, rfl⟩ := List.mem_map.1 hx
  exact Int.natCast_nonneg _
theorem padB_nn {xs : List Int} (h : ∀ x ∈ xs, 0 ≤ x ∧ x ≤ 255) : ∀ x ∈ padB xs, 0 ≤ x := by
  intro x hx
  unfold padB at hx
  rcases List.mem_append.1 hx with hx | hx
  · rcases List.mem_append.1 hx with hx | hx
    · rcases List.mem_append.1 hx with hx | hx
      · exact (h x hx).1
      · simp at hx; omega
    · have := List.eq_of_mem_replicate hx; omega
  · exact be8_nn _ x hx
end
section
def sumF (args : List Value) (H : Heap) : Option Value := match args with
  | [x] => match readB H x with
    | some xs => match Nat.ble (lenN xs) 80000000 with
      | true => inL xs fun xs => inL (padB xs) fun ys => outL .u8 (stT ys) fun r => some (.agg ⟨r⟩)
      | false => none
    | none => none
  | _ => none
def wordI (v : Value) : Option Nat := match v with
  | .int k n => match k with
    | .u32 => match n with
      | .ofNat m => match Nat.blt m 4294967296 with
        | true => some m
        | false => none
      | .negSucc _ => none
    | _ => none
  | _ => none
def wordsI (l : List Value) : Option (List Nat) := match l with
  | [] => some []
  | v :: r => match wordI v with
    | some n => match wordsI r with
      | some t => some (n :: t)
      | none => none
    | none => none
def mixF' (args : List Value) (H : Heap) : Option Value := match args with
  | [ws, x] => match ws with
    | .agg ws => match wordsI ws.toList with
      | some [a, b, c, d, e, f, g, h] => match readB H x with
        | some xs => match Nat.beq (lenN xs) 64 with
          | true => inL xs fun xs => outL .u32 (w8L (mixK ⟨a, b, c, d, e, f, g, h⟩ xs)) fun r => some (.agg ⟨r⟩)
          | false => none
        | none => none
      | _ => none
    | _ => none
  | _ => none
theorem sumF_some {args : List Value} {H : Heap} {v : Value} (h : sumF args H = some v) : ∃ x xs, args = [x] ∧ readB H x = some xs ∧ xs.length ≤ 80000000 ∧ v = agg (by8 (sha xs)) := by
  unfold sumF at h
  split at h
  case h_2 => cases h
  case h_1 x =>
  split at h
  case h_2 => cases h
  case h_1 xs hx =>
  split at h
  case h_2 => cases h
  case h_1 hl =>
  have hb := (readB_some hx).1
  rw [inL_eq xs _ (fun x h => (hb x h).1), inL_eq _ _ (padB_nn hb), outL_eq, stT_eq] at h
  cases h
  exact ⟨x, xs, rfl, hx, by rw [← lenN_eq]; exact Nat.le_of_ble_eq_true hl, rfl⟩
theorem wordI_some {v : Value} {n : Nat} (h : wordI v = some n) : v = u32 n ∧ n < 4294967296 := by
  unfold wordI at h
  split at h
  case h_2 => cases h
  case h_1 k m =>
  split at h
  case h_2 => cases h
  case h_1 =>
  split at h
  case h_2 => cases h
  case h_1 q =>
  split at h
  case h_2 => cases h
  case h_1 hb =>
  cases h
  exact ⟨rfl, Nat.le_of_ble_eq_true hb⟩
theorem wordsI_some : ∀ {l : List Value} {ns : List Nat}, wordsI l = some ns → l = ns.map (fun n => u32 n) ∧ ∀ n ∈ ns, n < 4294967296
  | [], ns, h => by cases h; exact ⟨rfl, fun _ h => by cases h⟩
  | v :: r, ns, h => by
    unfold wordsI at h
    split at h
    case h_2 => cases h
    case h_1 n hn =>
    split at h
    case h_2 => cases h
    case h_1 t ht =>
    cases h
    obtain ⟨rfl, h1⟩ := wordI_some hn
    obtain ⟨rfl, h3⟩ := wordsI_some ht
    exact ⟨rfl, fun x hx => by
      rcases List.mem_cons.1 hx with rfl | hx
      · exact h1
      · exact h3 x hx⟩
theorem mixF'_some {args : List Value} {H : Heap} {v : Value} (h : mixF' args H = some v) : ∃ x s xs, args = [agg (w8C s), x] ∧ s.Ok ∧ readB H x = some xs ∧ xs.length = 64 ∧ v = agg (w8C (mixF s xs)) := by
  unfold mixF' at h
  split at h
  case h_2 => cases h
  case h_1 ws x =>
  split at h
  case h_2 => cases h
  case h_1 ws =>
  split at h
  case h_2 => cases h
  case h_1 a b c d e f g h0 hws =>
  split at h
  case h_2 => cases h
  case h_1 xs hx =>
  split at h
  case h_2 => cases h
  case h_1 hl =>
  have hb := (readB_some hx).1
  obtain ⟨e1, e2⟩ := wordsI_some hws
  have hl : xs.length = 64 := by rw [← lenN_eq]; exact Nat.eq_of_beq_eq_true hl
  rw [inL_eq xs _ (fun x h => (hb x h).1), mixK_eq (by omega), List.take_of_length_le (by omega), outL_eq] at h
  cases h
  refine ⟨x, ⟨a, b, c, d, e, f, g, h0⟩, xs, ?_, ?_, hx, hl, ?_⟩
  · rw [show ws = (ws.toList).toArray by simp, e1]; rfl
  · constructor <;> simp_all
  · generalize mixF ⟨a, b, c, d, e, f, g, h0⟩ xs = s
    obtain ⟨a, b, c, d, e, f, g, h⟩ := s
    rfl
section
variable {W : World}
theorem sum_good (hT : Seal.Tabs2 W) {args : List Value} {H : Heap} {v : Value} (h : sumF args H = some v) : @OrcGood (baseOf W) P n_ref02_Sum args H v := by
  letI := baseOf W
  obtain ⟨x, xs, rfl, hx, hl, rfl⟩ := sumF_some h
  refine orc_bytes (pre := []) Seal.good (Seal.orcS2_ok hT) rfl hx (by simp [flat3, flat2, flat1]) fun x' hR => ?_
  letI : LpC := lp0
  obtain ⟨n, ex, v, H', h1, h2⟩ := rSum_spec (lp := lp0) (st_args P.globals.size [by8 xs]) hR (readB_some hx).1 hl (K := fun v _ => v = agg (by8 (sha xs))) (fun _ _ => rfl)
  exact ⟨n, ex, H', by rw [h2] at h1; exact h1⟩
theorem mix_good (hT : Seal.Tabs2 W) {args : List Value} {H : Heap} {v : Value} (h : mixF' args H = some v) : @OrcGood (baseOf W) P n_digest_words_mix args H v := by
  letI := baseOf W
  obtain ⟨x, s, xs, rfl, hs, hx, hl, rfl⟩ := mixF'_some h
  refine orc_bytes (pre := [agg (w8C s)]) Seal.good (Seal.orcS2_ok hT) (by simp [flat2, flat1, w8C]) hx (by simp [flat3, flat2, flat1, w8C]) fun x' hR => ?_
  obtain ⟨n, ex, v, H', h1, h2⟩ := mix_spec (lp := lp0) hs (st_args P.globals.size [by8 xs]) hR (readB_some hx).1 hl (K := fun v _ => v = agg (w8C (mixF s xs))) (fun _ _ => rfl)
  exact ⟨n, ex, H', by rw [h2] at h1; exact h1⟩
end
end
end
end J
set_option linter.unusedVariables false
set_option linter.unusedSimpArgs false
set_option linter.unusedSectionVars false
set_option maxRecDepth 100000
namespace J
open Go Go.Ab
noncomputable section
def crcT (args : List Value) : Option Value := match args with
  | [v] => match wordI v with
    | some r => fo (crc1 r) fun r => fo (crc1 r) fun r => fo (crc1 r) fun r => fo (crc1 r) fun r => fo (crc1 r) fun r => fo (crc1 r) fun r => fo (crc1 r) fun r => fo (crc1 r) fun r => some (.int .u32 (Int.ofNat r))
    | none => none
  | _ => none
theorem crcT_some {args : List Value} {v : Value} (h : crcT args = some v) : ∃ r : Nat, r < 4294967296 ∧ args = [uint .u32 r] ∧ v = uint .u32 (crcN 8 r) := by
  unfold crcT at h
  split at h
  case h_2 => cases h
  case h_1 x =>
  split at h
  case h_2 => cases h
  case h_1 r hr =>
  simp only [fo_eq] at h
  cases h
  obtain ⟨rfl, h1⟩ := wordI_some hr
  exact ⟨r, h1, rfl, rfl⟩
def sameS (l m : List UInt8) : Bool := all2N (fun a b => Nat.beq a.toNat b.toNat) l m
theorem sameS_eq {l m : List UInt8} (h : sameS l m = true) : l = m := all2N_sound (fun _ _ h => UInt8.toNat_inj.1 (Nat.eq_of_beq_eq_true h)) l m h
def strT (l : List (List UInt8 × Value)) (args : List Value) : Option Value := match args with
  | [v] => match v with
    | .string s => List.rec (motive := fun _ => Option Value) none (fun p _ ih => Bool.rec (motive := fun _ => Option Value) ih (some p.2) (sameS p.1 s.data.toList)) l
    | _ => none
  | _ => none
theorem strT_some : ∀ {l : List (List UInt8 × Value)} {args : List Value} {v : Value}, strT l args = some v → ∃ b, (b, v) ∈ l ∧ args = [.string ⟨b.toArray⟩]
  | [], args, v, h => by
    unfold strT at h
    split at h
    case h_2 => cases h
    case h_1 =>
    split at h <;> cases h
  | (b, u) :: l, args, v, h => by
    have ih := fun h => strT_some (l := l) (args := args) (v := v) h
    unfold strT at h ih
    split at h
    case h_2 => cases h
    case h_1 x =>
    split at h
    case h_2 => cases h
    case h_1 s =>
    cases hs : sameS b s.data.toList with
    | true =>
      simp only [hs] at h
      cases h
      refine ⟨b, .head _, ?_⟩
      rw [sameS_eq hs]
    | false =>
      simp only [hs] at h
      obtain ⟨c, h1, h2⟩ := ih h
      exact ⟨c, .tail _ h1, h2⟩
def names : List (List UInt8 × Value) := [(#[99, 111, 114, 101].toList, .int .i64 0), (#[67, 79, 82, 69].toList, .int .i64 0), (#[109, 111, 100, 101, 109].toList, .int .i64 0)]
def folds : List (List UInt8 × Value) := [(#[99, 111, 114, 101].toList, .string ⟨#[99, 111, 114, 101]⟩), (#[67, 79, 82, 69].toList, .string ⟨#[99, 111, 114, 101]⟩), (#[109, 111, 100, 101, 109].toList, .string ⟨#[109, 111, 100, 101, 109]⟩)]
theorem names_ok : (names.all fun p => (p.2 matches .int .i64 0) && decide (Seal.nmF ⟨p.1.toArray⟩ p.1.toArray.size 0 0 = 0)) = true := by kernel_rfl
theorem folds_ok : (folds.all fun p => match p.2 with | .string s => decide (Seal.foldF ⟨p.1.toArray⟩ = s) | _ => false) = true := by kernel_rfl
def letA (n : Nat) : Bool := (Nat.ble 65 n && Nat.ble n 90) || (Nat.ble 97 n && Nat.ble n 122)
def digA (n : Nat) : Bool := Nat.ble 48 n && Nat.ble n 57
def lowA (n : Nat) : Nat := Bool.rec (motive := fun _ => Nat) n (Nat.add n 32) (Nat.ble 65 n && Nat.ble n 90)
theorem let_ok : ((List.range 128).all fun n => Go.Lib.isLetterU (Int.ofNat n) == letA n) = true := by kernel_rfl
theorem dig_ok : ((List.range 128).all fun n => Go.Lib.isDigitU (Int.ofNat n) == digA n) = true := by kernel_rfl
theorem low_ok : ((List.range 128).all fun n => decide (Go.Lib.toLowerU (Int.ofNat n) = Int.ofNat (lowA n))) = true := by kernel_rfl
def runeA (F : Nat → Value) (args : List Value) : Option Value := match args with
  | [v] => match v with
    | .int k n => match k with
      | .i32 => match n with
        | .ofNat m => match Nat.blt m 128 with
          | true => fo m fun m => some (F m)
          | false => none
        | .negSucc _ => none
      | _ => none
    | _ => none
  | _ => none
theorem runeA_some {F : Nat → Value} {args : List Value} {v : Value} (h : runeA F args = some v) : ∃ n, n < 128 ∧ args = [.int .i32 (Int.ofNat n)] ∧ v = F n := by
  unfold runeA at h
  split at h
  case h_2 => cases h
  case h_1 x =>
  split at h
  case h_2 => cases h
  case h_1 k n =>
  split at h
  case h_2 => cases h
  case h_1 =>
  split at h
  case h_2 => cases h
  case h_1 m =>
  split at h
  case h_2 => cases h
  case h_1 hb =>
  rw [fo_eq] at h
  cases h
  exact ⟨m, Nat.le_of_ble_eq_true hb, rfl, rfl⟩
def small : Tb := ⟨fun _ => none, fun _ => none⟩
def blankV : Value := .agg (List.replicate 64 (.int .u8 255)).toArray
theorem blank_run : outT (run2 P small 100000 (.call 32 [] (start P.globals.size))) = some blankV := by kernel_rfl
def blankT (args : List Value) : Option Value := match args with
  | [] => some blankV
  | _ => none
section
variable {W : World}
theorem crc_good (hT : Seal.Tabs2 W) {args : List Value} {H : Heap} {v : Value} (h : crcT args = some v) : @OrcGood (baseOf W) P n_crc_step args H v := by
  obtain ⟨r, hr, rfl, rfl⟩ := crcT_some h
  obtain ⟨n, ex, v', H', hrun, hv⟩ := crc_step_spec (lp := lp0) (H := Ab.start P.globals.size) (K := fun v _ => v = uint .u32 (crcN 8 r)) hr rfl
  subst hv
  letI := baseOf W
  exact orc_flat Seal.good (Seal.orcS2_ok hT) hrun rfl rfl H
theorem small_ok : @OrcOk (baseOf W) (orcT small) P := @OrcOk.mk (baseOf W) (orcT small) P (fun _ _ _ _ h => by cases h) (fun _ _ h => by cases h)
theorem blank_good {args : List Value} {H : Heap} {v : Value} (h : blankT args = some v) : @OrcGood (baseOf W) P 32 args H v := by
  unfold blankT at h
  split at h
  case h_2 => cases h
  case h_1 =>
  cases h
  letI := baseOf W
  letI : Orc := orcT small
  exact orc_val Seal.good small_ok (run2_val blank_run) (by rfl) H
theorem name_good' (hT : Seal.Tabs2 W) {args : List Value} {H : Heap} {v : Value} (h : strT names args = some v) : @OrcGood (baseOf W) P 46 args H v := by
  obtain ⟨b, hb, rfl⟩ := strT_some h
  have h1 := List.all_eq_true.1 names_ok _ hb
  simp only [Bool.and_eq_true, decide_eq_true_eq] at h1
  have h2 : v = .int .i64 0 := by
    have := h1.1
    split at this
    · rfl
    · cases this
  subst h2
  have hs : (⟨b.toArray⟩ : ByteArray).size < 4611686018427387904 := by
    have := List.all_eq_true.1 (show (names.all fun p => Nat.blt p.1.toArray.size 4611686018427387904) = true by rfl) _ hb
    exact Nat.le_of_ble_eq_true this
  have := Seal.name_good hT.t hs H
  rw [show Seal.nmF ⟨b.toArray⟩ (⟨b.toArray⟩ : ByteArray).size 0 0 = 0 from h1.2] at this
  exact this
theorem fold_good' (hT : Seal.Tabs2 W) {args : List Value} {H : Heap} {v : Value} (h : strT folds args = some v) : @OrcGood (baseOf W) P 45 args H v := by
  obtain ⟨b, hb, rfl⟩ := strT_some h
  have h1 := List.all_eq_true.1 folds_ok _ hb
  have hs : (⟨b.toArray⟩ : ByteArray).size ≤ 35184372088832 := by
    have := List.all_eq_true.1 (show (folds.all fun p => Nat.ble p.1.toArray.size 35184372088832) = true by rfl) _ hb
    exact Nat.le_of_ble_eq_true this
  have := Seal.fold_good hT hs H
  cases v <;> simp only [decide_eq_true_eq, Bool.false_eq_true] at h1
  rw [h1] at this
  exact this
theorem let_good (hT : Seal.Tabs2 W) {args : List Value} {H : Heap} {v : Value} (h : runeA (fun n => .bool (letA n)) args = some v) : @OrcGood (baseOf W) P 145 args H v := by
  obtain ⟨n, hn, rfl, rfl⟩ := runeA_some h
  have h1 := List.all_eq_true.1 let_ok n (List.mem_range.2 hn)
  rw [← show Go.Lib.isLetterU (Int.ofNat n) = letA n from eq_of_beq h1]
  exact Seal.letter_good hT.t.p hT.t.l (by simp <;> omega) (by simp <;> omega) H
theorem dig_good (hT : Seal.Tabs2 W) {args : List Value} {H : Heap} {v : Value} (h : runeA (fun n => .bool (digA n)) args = some v) : @OrcGood (baseOf W) P 146 args H v := by
  obtain ⟨n, hn, rfl, rfl⟩ := runeA_some h
  have h1 := List.all_eq_true.1 dig_ok n (List.mem_range.2 hn)
  rw [← show Go.Lib.isDigitU (Int.ofNat n) = digA n from eq_of_beq h1]
  exact Seal.digit_good hT.t.d (by simp <;> omega) (by simp <;> omega) H
theorem low_good (hT : Seal.Tabs2 W) {args : List Value} {H : Heap} {v : Value} (h : runeA (fun n => .int .i32 (Int.ofNat (lowA n))) args = some v) : @OrcGood (baseOf W) P 88 args H v := by
  obtain ⟨n, hn, rfl, rfl⟩ := runeA_some h
  have h1 := List.all_eq_true.1 low_ok n (List.mem_range.2 hn)
  rw [← show Go.Lib.toLowerU (Int.ofNat n) = Int.ofNat (lowA n) from of_decide_eq_true h1]
  exact Seal.lower_good hT _ H
def tabL : List (Nat × TF) := [(23, ⟨sumF⟩), (277, ⟨mixF'⟩), (288, ⟨fun a _ => crcT a⟩), (32, ⟨fun a _ => blankT a⟩), (45, ⟨fun a _ => strT folds a⟩), (46, ⟨fun a _ => strT names a⟩), (145, ⟨fun a _ => runeA (fun n => .bool (letA n)) a⟩), (146, ⟨fun a _ => runeA (fun n => .bool (digA n)) a⟩), (88, ⟨fun a _ => runeA (fun n => .int .i32 (Int.ofNat (lowA n))) a⟩)]
def bodL : List (Nat × Code) := [(129, Seal.heedS), (246, Seal.asS), (112, Seal.folS)]
abbrev tbX : Tb := ⟨lookT tabL, lookT bodL⟩
def trueT (args : List Value) : Option Value := match args with
  | [] => some (.bool true)
  | _ => none
def tabA : List (Nat × TF) := (4, ⟨fun a _ => trueT a⟩) :: tabL
abbrev tbY : Tb := ⟨lookT tabA, lookT bodL⟩
section
open Seal
theorem as_goodT (tb : Tb) (ht : tb.tab 25 = none) (hb : tb.bod 25 = none) (hP : Good P0) [Base] : @BodGood _ (orcT tb) P0 246 asS := by
  letI := orcT tb
  have e : asS = .seq (cl aB) (.seq (cl (cr aB)) (.seq (cl (cr (cr aB))) (.seq (.region (cid a4) ((cops a4).toList.take 5).toArray false) (.seq (.region (cid a5) (cops a5) true) (.seq (.region (cid a4) #[{ aD with op := .call (callOf aD), dst := none }] false) .ret))))) := by kernel_rfl
  rw [e]
  exact bod_tail (i4 := cid a4) (ops4 := cops a4) (g := 25) (fn := fnAt P0 246) (gn := fnAt P0 25) (gc := surr P0 25 id) (D := aD) (cc := callOf aD) hP (fn_at (by kernel_rfl)) (by kernel_rfl) (by kernel_rfl) (by kernel_rfl) (by kernel_rfl) (by kernel_rfl) (fun o ho => by
    have : ∀ o ∈ (cops a4).toList.take 5, o.guard = none := by
      have h : ((cops a4).toList.take 5).all (fun o => o.guard.isNone) = true := by kernel_rfl
      intro o ho
      have := List.all_eq_true.1 h o ho
      simpa using this
    exact this o ho) (by kernel_rfl) (by kernel_rfl) (by kernel_rfl) (by kernel_rfl) rfl (by kernel_rfl) rfl (tmpsOk_spec (by kernel_rfl)) (fn_at (by kernel_rfl)) (by kernel_rfl) (by kernel_rfl) (fun args H => by show (match tb.tab 25 with | some t => t.f args H | none => none) = none; rw [ht]) hb
end
theorem tabL_ok (hT : Seal.Tabs2 W) : ∀ p ∈ tabL, ∀ args H v, p.2.f args H = some v → @OrcGood (baseOf W) P p.1 args H v := by
  intro p hp args H v h
  rcases List.mem_cons.1 hp with rfl | hp
  · exact sum_good hT h
  rcases List.mem_cons.1 hp with rfl | hp
  · exact mix_good hT h
  rcases List.mem_cons.1 hp with rfl | hp
  · exact crc_good hT h
  rcases List.mem_cons.1 hp with rfl | hp
  · exact blank_good h
  rcases List.mem_cons.1 hp with rfl | hp
  · exact fold_good' hT h
  rcases List.mem_cons.1 hp with rfl | hp
  · exact name_good' hT h
  rcases List.mem_cons.1 hp with rfl | hp
  · exact let_good hT h
  rcases List.mem_cons.1 hp with rfl | hp
  · exact dig_good hT h
  rcases List.mem_cons.1 hp with rfl | hp
  · exact low_good hT h
  cases hp
theorem bodL_ok (tb : Tb) (ht : tb.tab 25 = none) (hb : tb.bod 25 = none) : ∀ q ∈ bodL, @BodGood (baseOf W) (orcT tb) P q.1 q.2 := by
  letI := baseOf W
  letI := orcT tb
  have hP := good_of Seal.good
  intro q hq
  rcases List.mem_cons.1 hq with rfl | hq
  · exact Seal.heed_good hP
  rcases List.mem_cons.1 hq with rfl | hq
  · exact as_goodT tb ht hb hP
  rcases List.mem_cons.1 hq with rfl | hq
  · exact Seal.fol_good hP
  cases hq
theorem okX (hT : Seal.Tabs2 W) : @OrcOk (baseOf W) (orcT tbX) P := orcT_ok (tabL_ok hT) (bodL_ok tbX rfl rfl)
end
end
end J
