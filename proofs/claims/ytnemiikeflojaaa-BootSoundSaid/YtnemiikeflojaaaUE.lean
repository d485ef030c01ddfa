/- texts of the proof, one behind the other -/
import Derived.Test.YtnemiikeflojaaaUD
set_option linter.unusedVariables false
set_option linter.unusedSimpArgs false
set_option maxRecDepth 100000
namespace J
open Go Go.Ab
variable {H : Heap} {Γ Γ0 Γ2 Δ G : List (Nat × Blk)} {K : Value → Heap → Prop} {v w x : Value} {xs ys zs bs b data : List Int} {j p pd pz : Nat} {e : Int} {cs : List Value}
abbrev u64 (n : Nat) : Value := uint .u64 n
theorem add64 {t : TypeId} {c : Bool} {a b : Nat} (h : a + b < 18446744073709551616) : (binC P .add t c).f (u64 a) (u64 b) = some (u64 (a + b)) := by
  rw [bin_addU (k := .u64) rfl, Nat.mod_eq_of_lt (show a + b < szU .u64 from h)]
theorem quo_i {t : TypeId} {c : Bool} {a b : Nat} (hb : 0 < b) (ha : a < 9223372036854775807) : (binC P .quo t c).f (int a) (int b) = some (int ((a / b : Nat) : Int)) := by
  rw [binC_int _ _ rfl]
  show (match eqB (b : Int) 0 with | true => none | false => some (Value.int .i64 (wrapA .i64 ((a : Int).tdiv b)))) = _
  rw [eqB_eq, decide_eq_false (by omega)]
  show some (Value.int .i64 (wrapA .i64 ((a / b : Nat) : Int))) = _
  have h1 : ((a / b : Nat) : Int) ≤ (a : Int) := Int.ofNat_le.2 (Nat.div_le_self a b)
  have h2 : (0 : Int) ≤ ((a / b : Nat) : Int) := Int.natCast_nonneg _
  generalize ((a / b : Nat) : Int) = q at *
  rw [wrap_i (by omega) (by omega)]
theorem right_spec {a n : Nat} (ha : a < 4294967296) (hn : 0 < n) (hn2 : n < 32) (hk : K (u64 (rr a n)) H) : wCall P n_ref02_right [u64 a, u64 n] H K := by
  apply ref02_right_ok; unfold ref02_right
  have e64 : szU .u64 = 18446744073709551616 := rfl
  have hp : 2 ^ (32 - n) ≤ 2 ^ 31 := Nat.pow_le_pow_right (by omega) (by omega)
  have hm : a * 2 ^ (32 - n) < 18446744073709551616 := Nat.lt_of_le_of_lt (Nat.mul_le_mul (Nat.le_of_lt ha) hp) (by decide)
  have hd : a / 2 ^ n < 4294967296 := Nat.lt_of_le_of_lt (Nat.div_le_self _ _) ha
  refine opP_i (bin_shrU (k := .u64) rfl (show n ≤ 64 by omega)) ?_
  refine opP_i (v := u64 (32 - n)) (by rw [show (Value.int .u64 32) = uint .u64 32 from rfl, bin_subU rfl (by omega) (by decide)]) ?_
  refine opP_i (bin_shlU (k := .u64) rfl (show 32 - n ≤ 64 by omega)) ?_
  rw [Nat.mod_eq_of_lt (show a * 2 ^ (32 - n) < szU .u64 from hm)]
  refine opP_i (bin_orU (k := .u64) rfl (show _ < 18446744073709551616 by omega) hm) ?_
  refine opP_i (bin_remU (k := .u64) (b := 4294967296) (by decide)) ?_
  have e : (a / 2 ^ n ||| a * 2 ^ (32 - n)) % 4294967296 = rr a n := by
    unfold rr
    rw [show (4294967296 : Nat) = 2 ^ 32 from rfl, Nat.or_mod_two_pow, Nat.mod_eq_of_lt (show a / 2 ^ n < 2 ^ 32 from hd)]
  rw [e]; exact hk
def wM (w : List Nat) (n : Nat) : List Value := (w.map fun (n : Nat) => u64 n) ++ u64 n :: List.replicate (63 - w.length) (u64 0)
def wL (w : List Nat) : List Value := (w.map fun (n : Nat) => u64 n) ++ List.replicate (64 - w.length) (u64 0)
theorem wM_len {w : List Nat} {n : Nat} (h : w.length ≤ 63) : (wM w n).length = 64 := by simp [wM]; omega
theorem wM_zero {w : List Nat} (h : w.length ≤ 63) : wM w 0 = wL w := by
  unfold wM wL
  obtain ⟨m, hm⟩ : ∃ m, 64 - w.length = m + 1 := ⟨63 - w.length, by omega⟩
  rw [hm, List.replicate_succ, show 63 - w.length = m by omega]
theorem wM_done {w : List Nat} {n : Nat} (h : w.length ≤ 63) : wM w n = wL (w ++ [n]) := by
  unfold wM wL
  rw [List.length_append, show 64 - (w.length + [n].length) = 63 - w.length by show 64 - (w.length + 1) = _; omega]
  simp
theorem wM_at {w : List Nat} {n : Nat} : (wM w n)[w.length]? = some (u64 n) := by
  unfold wM
  rw [List.getElem?_append_right (by simp)]
  simp
theorem wM_set {w : List Nat} {n n' : Nat} : (wM w n).set w.length (u64 n') = wM w n' := by
  unfold wM
  rw [List.set_append_right _ _ (by simp)]
  simp
theorem wL_at {w : List Nat} {i : Nat} (h : i < w.length) : (wL w)[i]? = some (u64 (w.getD i 0)) := by
  unfold wL
  rw [List.getElem?_append_left (by simpa using h)]
  simp [h]
theorem wL_simple {w : List Nat} : (wL w).all simpleB = true := by simp [wL, simpleB, simple0]
def wPart (b : List Int) (t : Nat) : Nat → Nat
  | 0 => 0
  | y + 1 => 256 * wPart b t y + (b.getD (4 * t + y) 0).toNat
theorem wPart_4 {b : List Int} {t : Nat} : wPart b t 4 = wWord b t := by
  show 256 * (256 * (256 * (256 * 0 + (b.getD (4 * t + 0) 0).toNat) + (b.getD (4 * t + 1) 0).toNat) + (b.getD (4 * t + 2) 0).toNat) + (b.getD (4 * t + 3) 0).toNat = _
  unfold wWord
  rw [Nat.add_zero]
  omega
theorem wPart_lt {b : List Int} (h : ∀ x ∈ b, 0 ≤ x ∧ x ≤ 255) (t : Nat) : ∀ y, wPart b t y < 256 ^ y
  | 0 => Nat.zero_lt_one
  | y + 1 => by
    show 256 * wPart b t y + _ < 256 ^ (y + 1)
    have h1 := wPart_lt h t y
    have h2 := by_getD h (4 * t + y)
    rw [Nat.pow_succ]
    omega
theorem blk_getD {m i : Nat} (h : i < 64) : ((data.drop (64 * m)).take 64).getD i 0 = data.getD (64 * m + i) 0 := by
  rw [List.getD_eq_getElem?_getD, List.getD_eq_getElem?_getD, List.getElem?_take_of_lt h, List.getElem?_drop]
theorem r_L4 {p2 p7 p8 p10 m t : Nat} {ws : List Nat} {Qx : Nat → List Value → Heap → Prop} {Qr : List Value → Heap → Prop} (hv : RdB Γ v data) (hb : ∀ x ∈ data, 0 ≤ x ∧ x ≤ 255) (hm : 64 * m + 64 ≤ data.length) (hl : data.length ≤ 1000000000) (ht : t < 16) (hw : ws.length = t)
    (hO : St H (Γ ++ [(p10, ⟨wL ws, true⟩)]))
    (hk : ∀ H', St H' (Γ ++ [(p10, ⟨wL (ws ++ [wWord ((data.drop (64 * m)).take 64) t]), true⟩)]) → Qx 8 [ptr p2 0, v, ptr p7 0, ptr p8 0, int ((64 * m : Nat) : Int), ptr p10 0, int t] H') :
    wLoop P true 252 ref02_Sum_P4 3980 [ptr p2 0, v, ptr p7 0, ptr p8 0, int ((64 * m : Nat) : Int), ptr p10 0, int t, int 0] H Qx Qr := by
  have hbb : ∀ x ∈ (data.drop (64 * m)).take 64, 0 ≤ x ∧ x ≤ 255 := fun x hx => hb x (List.mem_of_mem_drop (List.mem_of_mem_take hx))
  rw [← wM_zero (by omega)] at hO
  refine ref02_Sum_L4_ind (fun k l' H' => ∃ (y : Nat), y ≤ 4 ∧ k = 4 - y ∧ l' = [ptr p2 0, v, ptr p7 0, ptr p8 0, int ((64 * m : Nat) : Int), ptr p10 0, int t, int y] ∧ St H' (Γ ++ [(p10, ⟨wM ws (wPart ((data.drop (64 * m)).take 64) t y), true⟩)])) _ _ ?_ 4 _ _ ⟨0, by omega, rfl, rfl, hO⟩
  clear hO
  rintro k l' H ⟨y, hy, rfl, rfl, hO⟩
  unfold ref02_Sum_L4
  try simp only [nth_zero, nth_succ]
  refine opP_i bin_lss ?_
  refine wIf_dec (fun h => ?_) (fun h => ?_)
  · have hy4 : y < 4 := by omega
    have hp := wPart_lt hbb t y
    have hp3 : 256 ^ y ≤ 256 ^ 3 := Nat.pow_le_pow_right (by omega) (by omega)
    have hp4 : (256 : Nat) ^ 3 = 16777216 := rfl
    have g := by_getD hb (64 * m + (4 * t + y))
    refine opP_i (idxPtr_ok (by omega) (by omega)) ?_
    rw [Int.toNat_natCast]
    refine load_at hO (Γ.length + 0) (at_r rfl) (v := u64 (wPart ((data.drop (64 * m)).take 64) t y)) (by rw [show 0 + t * 1 = ws.length by omega]; exact wM_at) ?_
    refine opP_i (v := u64 (256 * wPart ((data.drop (64 * m)).take 64) t y)) (by
      rw [show (Value.int .u64 256) = uint .u64 256 from rfl, bin_mulU (k := .u64) rfl, Nat.mod_eq_of_lt (show _ < szU .u64 from (show _ < 18446744073709551616 by omega))]) ?_
    refine opP_i (v := int ((4 * t : Nat) : Int)) (by rw [bin_muli (by omega) (by omega)]; congr 2 <;> omega) ?_
    refine opP_i (v := int ((64 * m + 4 * t : Nat) : Int)) (by rw [bin_addi (by omega) (by omega)]; congr 2 <;> omega) ?_
    refine opP_i (v := int ((64 * m + (4 * t + y) : Nat) : Int)) (by rw [bin_addi (by omega) (by omega)]; congr 2 <;> omega) ?_
    refine by_at hO hv.app hb rfl (by omega) ?_
    refine opW_i (cvU (k' := .u64) rfl) ?_
    rw [Nat.mod_eq_of_lt (show (data.getD (64 * m + (4 * t + y)) 0).toNat < szU .u64 from (show _ < 18446744073709551616 by omega))]
    refine opP_i (add64 (by omega)) ?_
    refine opP_i (idxPtr_ok (by omega) (by omega)) ?_
    rw [Int.toNat_natCast]
    refine store1_at hO (Γ.length + 0) (at_r rfl) rfl (by rw [wM_len (by omega)]; omega) (show _ = wM ws (wPart ((data.drop (64 * m)).take 64) t (y + 1)) from ?_) ?_
    · rw [show 0 + t * 1 = ws.length by omega, wM_set]
      show _ = wM ws (256 * _ + _)
      rw [blk_getD (by omega)]
    clear hO
    intro H hO
    replace hO := hO.set_r
    repeat (first | refine oi ?_ | refine ow ?_ | refine wy ?_ | refine wn ?_ | refine wt ?_ | refine wf' ?_ | refine cy ?_ | refine cn ?_)
    exact ⟨4 - (y + 1), by omega, y + 1, by omega, rfl, rfl, hO⟩
  · have hy : y = 4 := by omega
    subst hy
    rw [wPart_4, wM_done (by omega)] at hO
    exact hk H hO
theorem turn2 {x a b : Nat} : turnN x [a, b] = rr x a ^^^ rr x b := by
  show (0 ^^^ rr x a) ^^^ rr x b = _
  rw [Nat.zero_xor]
theorem turn3 {x a b c : Nat} : turnN x [a, b, c] = (rr x a ^^^ rr x b) ^^^ rr x c := by
  show ((0 ^^^ rr x a) ^^^ rr x b) ^^^ rr x c = _
  rw [Nat.zero_xor]
theorem lt64 {a : Nat} (h : a < 4294967296) : a < szU .u64 := Nat.lt_trans h (by decide)
set_option maxHeartbeats 2000000 in
theorem r_L3 {p2 p7 p8 p10 m : Nat} {Qx : Nat → List Value → Heap → Prop} {Qr : List Value → Heap → Prop} (hv : RdB Γ v data) (hb : ∀ x ∈ data, 0 ≤ x ∧ x ≤ 255) (hm : 64 * m + 64 ≤ data.length) (hl : data.length ≤ 1000000000)
    (hO : St H (Γ ++ [(p10, ⟨wL [], true⟩)]))
    (hk : ∀ H', St H' (Γ ++ [(p10, ⟨wL (wUp ((data.drop (64 * m)).take 64) 64), true⟩)]) → Qx 6 [ptr p2 0, v, ptr p7 0, ptr p8 0, int ((64 * m : Nat) : Int), ptr p10 0] H') :
    wLoop P true 252 ref02_Sum_P3 1932 [ptr p2 0, v, ptr p7 0, ptr p8 0, int ((64 * m : Nat) : Int), ptr p10 0, int 0] H Qx Qr := by
  have hbb : ∀ x ∈ (data.drop (64 * m)).take 64, 0 ≤ x ∧ x ≤ 255 := fun x hx => hb x (List.mem_of_mem_drop (List.mem_of_mem_take hx))
  refine ref02_Sum_L3_ind (fun k l' H' => ∃ (y : Nat), y ≤ 64 ∧ k = 64 - y ∧ l' = [ptr p2 0, v, ptr p7 0, ptr p8 0, int ((64 * m : Nat) : Int), ptr p10 0, int y] ∧ St H' (Γ ++ [(p10, ⟨wL (wUp ((data.drop (64 * m)).take 64) y), true⟩)])) _ _ ?_ 64 _ _ ⟨0, by omega, rfl, rfl, hO⟩
  clear hO
  rintro k l' H ⟨y, hy, rfl, rfl, hO⟩
  unfold ref02_Sum_L3
  try simp only [nth_zero, nth_succ]
  have hwl := wUp_len (b := (data.drop (64 * m)).take 64) y
  have es : wUp ((data.drop (64 * m)).take 64) (y + 1) = wUp ((data.drop (64 * m)).take 64) y ++ [wNext ((data.drop (64 * m)).take 64) (wUp ((data.drop (64 * m)).take 64) y) y] := rfl
  have hlt : ∀ i, (wUp ((data.drop (64 * m)).take 64) y).getD i 0 < 4294967296 := getD_lt (wUp_lt hbb y)
  refine opP_i bin_lss ?_
  refine wIf_dec (fun h => ?_) (fun h => ?_)
  · refine opP_i bin_lss ?_
    refine wIf_dec (fun h16 => ?_) (fun h16 => ?_)
    · refine r_L4 hv hb hm hl (by omega) hwl hO ?_
      clear hO
      intro H hO
      refine cond_yes rfl ?_
      try simp only [nth_zero, nth_succ]
      repeat (first | refine oi ?_ | refine ow ?_ | refine wy ?_ | refine wn ?_ | refine wt ?_ | refine wf' ?_ | refine cy ?_ | refine cn ?_)
      refine ⟨64 - (y + 1), by omega, y + 1, by omega, rfl, rfl, ?_⟩
      rw [es, show wNext ((data.drop (64 * m)).take 64) (wUp ((data.drop (64 * m)).take 64) y) y = wWord ((data.drop (64 * m)).take 64) y by unfold wNext; rw [if_pos (by omega)]]
      exact hO
    · generalize hws : wUp ((data.drop (64 * m)).take 64) y = ws at *
      have ld : ∀ {i : Nat} {K : Value → Heap → Prop}, i < y → K (u64 (ws.getD i 0)) H → opW (loadOne (ptr p10 (0 + i * 1)) H) K := fun {i K} hi hk => load_at hO (Γ.length + 0) (at_r rfl) (v := u64 (ws.getD i 0)) (by rw [show 0 + i * 1 = i by omega]; exact wL_at (by omega)) hk
      have sm : ∀ {o : Nat}, cSame (sameB H H) (idsOf [ptr p10 o]) := same_at hO (Γ.length + 0) (at_r rfl) hO (Γ.length + 0) (at_r rfl) wL_simple
      refine opP_i (bin_subi (by omega) (by omega)) ?_
      refine opP_i (idxPtr_ok (by omega) (by omega)) ?_
      rw [show ((y : Int) - 15).toNat = y - 15 by omega]
      refine ld (by omega) ?_
      refine opP_i (bin_subi (by omega) (by omega)) ?_
      refine opP_i (idxPtr_ok (by omega) (by omega)) ?_
      rw [show ((y : Int) - 2).toNat = y - 2 by omega]
      refine ld (by omega) ?_
      refine opP_i (bin_subi (by omega) (by omega)) ?_
      refine opP_i (idxPtr_ok (by omega) (by omega)) ?_
      rw [show ((y : Int) - 16).toNat = y - 16 by omega]
      refine ld (by omega) ?_
      refine right_spec (n := 7) (hlt _) (by omega) (by omega) ?_
      refine ⟨sm, ?_⟩
      refine right_spec (n := 18) (hlt _) (by omega) (by omega) ?_
      refine ⟨sm, ?_⟩
      have b1 := rr_lt (n := 7) (hlt (y - 15))
      have b2 := rr_lt (n := 18) (hlt (y - 15))
      have b3 := rr_lt (n := 17) (hlt (y - 2))
      have b4 := rr_lt (n := 19) (hlt (y - 2))
      have b5 : ws.getD (y - 15) 0 / 2 ^ 3 < 4294967296 := Nat.lt_of_le_of_lt (Nat.div_le_self _ _) (hlt _)
      have b6 : ws.getD (y - 2) 0 / 2 ^ 10 < 4294967296 := Nat.lt_of_le_of_lt (Nat.div_le_self _ _) (hlt _)
      refine opP_i (bin_xorU (k := .u64) rfl (lt64 b1) (lt64 b2)) ?_
      refine opP_i (bin_shrU (k := .u64) (n := 3) rfl (by decide)) ?_
      have b7 := Nat.xor_lt_two_pow (n := 32) b1 b2
      refine opP_i (bin_xorU (k := .u64) rfl (lt64 b7) (lt64 b5)) ?_
      have b8 := Nat.xor_lt_two_pow (n := 32) b7 b5
      have c1 := hlt (y - 16)
      have c2 := hlt (y - 7)
      refine opP_i (add64 (by omega)) ?_
      refine opP_i (bin_subi (by omega) (by omega)) ?_
      refine opP_i (idxPtr_ok (by omega) (by omega)) ?_
      rw [show ((y : Int) - 7).toNat = y - 7 by omega]
      refine ld (by omega) ?_
      refine ⟨sm, sm, ?_⟩
      refine opP_i (add64 (by omega)) ?_
      refine right_spec (n := 17) (hlt _) (by omega) (by omega) ?_
      refine ⟨sm, sm, ?_⟩
      refine right_spec (n := 19) (hlt _) (by omega) (by omega) ?_
      refine ⟨sm, sm, ?_⟩
      refine opP_i (bin_xorU (k := .u64) rfl (lt64 b3) (lt64 b4)) ?_
      refine opP_i (bin_shrU (k := .u64) (n := 10) rfl (by decide)) ?_
      have b9 := Nat.xor_lt_two_pow (n := 32) b3 b4
      refine opP_i (bin_xorU (k := .u64) rfl (lt64 b9) (lt64 b6)) ?_
      have b10 := Nat.xor_lt_two_pow (n := 32) b9 b6
      refine opP_i (add64 (by omega)) ?_
      refine opP_i (bin_remU (k := .u64) (b := 4294967296) (by decide)) ?_
      refine opP_i (idxPtr_ok (by omega) (by omega)) ?_
      rw [Int.toNat_natCast]
      rw [← wM_zero (by omega)] at hO
      refine store1_at hO (Γ.length + 0) (at_r rfl) rfl (by rw [wM_len (by omega)]; omega) (show _ = wL (ws ++ [wNext ((data.drop (64 * m)).take 64) ws y]) from ?_) ?_
      · rw [show 0 + y * 1 = ws.length by omega, wM_set, wM_done (by omega)]
        unfold wNext
        rw [if_neg (by omega), turn2, turn2]
      clear hO
      intro H hO
      replace hO := hO.set_r
      rw [← es] at hO
      repeat (first | refine oi ?_ | refine ow ?_ | refine wy ?_ | refine wn ?_ | refine wt ?_ | refine wf' ?_ | refine cy ?_ | refine cn ?_)
      exact ⟨64 - (y + 1), by omega, y + 1, by omega, rfl, rfl, hO⟩
  · have hy : y = 64 := by omega
    subst hy
    exact hk H hO
end J
set_option linter.unusedVariables false
set_option linter.unusedSimpArgs false
set_option maxRecDepth 100000
namespace J
open Go Go.Ab
variable {H : Heap} {Γ Γ0 Γ2 Δ G : List (Nat × Blk)} {K : Value → Heap → Prop} {v w x : Value} {xs ys zs bs b data : List Int} {j p pd pz : Nat} {e : Int} {cs : List Value}
def l8 (x : W8) : List Value := x.l.map fun (n : Nat) => u64 n
theorem l8_simple (x : W8) : (l8 x).all simpleB = true := rfl
theorem b8 (a b c d e f g h : Int) : (buildC P 96).f [(0, .int .u64 a), (1, .int .u64 b), (2, .int .u64 c), (3, .int .u64 d), (4, .int .u64 e), (5, .int .u64 f), (6, .int .u64 g), (7, .int .u64 h)] = some (agg [.int .u64 a, .int .u64 b, .int .u64 c, .int .u64 d, .int .u64 e, .int .u64 f, .int .u64 g, .int .u64 h]) := by kernel_rfl
theorem kR_at {i : Nat} (h : i < 64) : (kTab.map fun (n : Nat) => u64 n)[i]? = some (u64 (kTab.getD i 0)) := by
  have hl : kTab.length = 64 := rfl
  simp [hl, h]
theorem kR_simple : (kTab.map fun (n : Nat) => u64 n).all simpleB = true := by simp [simpleB, simple0]
theorem mod64 {t : TypeId} {c : Bool} {a : Nat} : (binC P .rem t c).f (u64 a) (.int .u64 4294967296) = some (u64 (a % 4294967296)) := bin_remU (k := .u64) (b := 4294967296) (by decide)
set_option maxHeartbeats 4000000 in
theorem r_L5 {p2 p7 p8 p10 p15 at' : Nat} {s : W8} {ws : List Nat} {Qx : Nat → List Value → Heap → Prop} {Qr : List Value → Heap → Prop} (hs : s.Ok) (hw : ∀ x ∈ ws, x < 4294967296) (hwl : ws.length = 64) {j8 j10 : Nat} (h8 : Γ[j8]? = some (p8, ⟨kTab.map fun (n : Nat) => u64 n, true⟩)) (h10 : Γ[j10]? = some (p10, ⟨wL ws, true⟩))
    (hO : St H (Γ ++ [(p15, ⟨l8 s, true⟩)]))
    (hk : ∀ H', St H' (Γ ++ [(p15, ⟨l8 (rndN ws s 64), true⟩)]) → Qx 10 [ptr p2 0, v, ptr p7 0, ptr p8 0, int at', ptr p15 0] H') :
    wLoop P true 252 ref02_Sum_P5 33676 [ptr p2 0, v, ptr p7 0, ptr p8 0, int at', ptr p10 0, ptr p15 0, int 0] H Qx Qr := by
  refine ref02_Sum_L5_ind (fun k l' H' => ∃ (y : Nat), y ≤ 64 ∧ k = 64 - y ∧ l' = [ptr p2 0, v, ptr p7 0, ptr p8 0, int at', ptr p10 0, ptr p15 0, int y] ∧ St H' (Γ ++ [(p15, ⟨l8 (rndN ws s y), true⟩)])) _ _ ?_ 64 _ _ ⟨0, by omega, rfl, rfl, hO⟩
  clear hO
  rintro k l' H ⟨y, hy, rfl, rfl, hO⟩
  unfold ref02_Sum_L5
  try simp only [nth_zero, nth_succ]
  refine opP_i bin_lss ?_
  refine wIf_dec (fun h => ?_) (fun h => ?_)
  rotate_left
  · have ey : y = 64 := by omega
    subst ey
    exact hk _ hO
  have hxo := rndN_ok (w := ws) hs y
  have ew : ws.getD y 0 < 4294967296 := getD_lt hw y
  have ek := kT_lt y
  have er : rndN ws s (y + 1) = rndF (rndN ws s y) (kTab.getD y 0) (ws.getD y 0) := rfl
  generalize rndN ws s y = x at *
  have i15 : (Γ ++ [(p15, (⟨l8 x, true⟩ : Blk))])[Γ.length + 0]? = some (p15, ⟨l8 x, true⟩) := at_r rfl
  have sm : ∀ {o : Nat}, cSame (sameB H H) (idsOf [ptr p15 o]) := same_at hO _ i15 hO _ i15 (l8_simple x)
  have sm8 : ∀ {o : Nat}, cSame (sameB H H) (idsOf [ptr p8 o]) := same_at hO _ (at_l h8) hO _ (at_l h8) kR_simple
  have sm10 : ∀ {o : Nat}, cSame (sameB H H) (idsOf [ptr p10 o]) := same_at hO _ (at_l h10) hO _ (at_l h10) wL_simple
  have ix : ∀ {i : Int} {h : 0 ≤ i} {h' : i < 8}, True := trivial
  refine opP_i (idxPtr_ok (by omega) (by omega)) ?_
  refine load_at hO _ i15 (v := u64 x.e) rfl ?_
  refine opP_i (idxPtr_ok (by omega) (by omega)) ?_
  refine load_at hO _ i15 (v := u64 x.f) rfl ?_
  refine opP_i (bin_andU (k := .u64) rfl (lt64 hxo.e) (lt64 hxo.f)) ?_
  refine opP_i (v := u64 (4294967295 - x.e)) (by
    have := hxo.e
    rw [show (Value.int .u64 4294967295) = uint .u64 4294967295 from rfl, bin_subU rfl (by omega) (by decide)]) ?_
  refine opP_i (idxPtr_ok (by omega) (by omega)) ?_
  refine load_at hO _ i15 (v := u64 x.g) rfl ?_
  refine opP_i (bin_andU (k := .u64) rfl (lt64 (by omega)) (lt64 hxo.g)) ?_
  refine opP_i (bin_xorU (k := .u64) rfl (lt64 (Nat.and_lt_two_pow (n := 32) _ hxo.f)) (lt64 (Nat.and_lt_two_pow (n := 32) _ hxo.g))) ?_
  have hch : chF x.e x.f x.g < 4294967296 := chF_lt hxo.e hxo.f hxo.g
  rw [show (x.e &&& x.f) ^^^ ((4294967295 - x.e) &&& x.g) = chF x.e x.f x.g from rfl]
  refine opP_i (idxPtr_ok (by omega) (by omega)) ?_
  refine load_at hO _ i15 (v := u64 x.h) rfl ?_
  have b6 := rr_lt (n := 6) hxo.e
  have b11 := rr_lt (n := 11) hxo.e
  have b25 := rr_lt (n := 25) hxo.e
  have b2 := rr_lt (n := 2) hxo.a
  have b13 := rr_lt (n := 13) hxo.a
  have b22 := rr_lt (n := 22) hxo.a
  refine right_spec (n := 6) hxo.e (by omega) (by omega) ?_
  refine ⟨sm, ?_⟩
  refine right_spec (n := 11) hxo.e (by omega) (by omega) ?_
  refine ⟨sm, ?_⟩
  refine opP_i (bin_xorU (k := .u64) rfl (lt64 b6) (lt64 b11)) ?_
  refine right_spec (n := 25) hxo.e (by omega) (by omega) ?_
  refine ⟨sm, ?_⟩
  refine opP_i (bin_xorU (k := .u64) rfl (lt64 (Nat.xor_lt_two_pow (n := 32) b6 b11)) (lt64 b25)) ?_
  rw [← turn3]
  have hS1 : turnN x.e [6, 11, 25] < 4294967296 := turnN_lt hxo.e
  have hh := hxo.h
  refine opP_i (add64 (by omega)) ?_
  refine opP_i (add64 (by omega)) ?_
  refine opP_i (idxPtr_ok (by omega) (by omega)) ?_
  rw [Int.toNat_natCast]
  refine load_at hO _ (at_l h8) (v := u64 (kTab.getD y 0)) (by rw [show 0 + y * 1 = y by omega]; exact kR_at (by omega)) ?_
  refine ⟨sm8, sm8, sm8, ?_⟩
  refine opP_i (add64 (by omega)) ?_
  refine opP_i (idxPtr_ok (by omega) (by omega)) ?_
  rw [Int.toNat_natCast]
  refine load_at hO _ (at_l h10) (v := u64 (ws.getD y 0)) (by rw [show 0 + y * 1 = y by omega]; exact wL_at (by omega)) ?_
  refine ⟨sm10, sm10, sm10, ?_⟩
  refine opP_i (add64 (by omega)) ?_
  refine opP_i (idxPtr_ok (by omega) (by omega)) ?_
  refine load_at hO _ i15 (v := u64 x.a) rfl ?_
  refine opP_i (idxPtr_ok (by omega) (by omega)) ?_
  refine load_at hO _ i15 (v := u64 x.b) rfl ?_
  refine opP_i (bin_andU (k := .u64) rfl (lt64 hxo.a) (lt64 hxo.b)) ?_
  refine opP_i (idxPtr_ok (by omega) (by omega)) ?_
  refine load_at hO _ i15 (v := u64 x.a) rfl ?_
  refine opP_i (idxPtr_ok (by omega) (by omega)) ?_
  refine load_at hO _ i15 (v := u64 x.c) rfl ?_
  refine opP_i (bin_andU (k := .u64) rfl (lt64 hxo.a) (lt64 hxo.c)) ?_
  have ab := Nat.and_lt_two_pow (n := 32) x.a hxo.b
  have ac := Nat.and_lt_two_pow (n := 32) x.a hxo.c
  have bc := Nat.and_lt_two_pow (n := 32) x.b hxo.c
  refine opP_i (bin_xorU (k := .u64) rfl (lt64 ab) (lt64 ac)) ?_
  refine opP_i (idxPtr_ok (by omega) (by omega)) ?_
  refine load_at hO _ i15 (v := u64 x.b) rfl ?_
  refine opP_i (idxPtr_ok (by omega) (by omega)) ?_
  refine load_at hO _ i15 (v := u64 x.c) rfl ?_
  refine opP_i (bin_andU (k := .u64) rfl (lt64 hxo.b) (lt64 hxo.c)) ?_
  refine opP_i (bin_xorU (k := .u64) rfl (lt64 (Nat.xor_lt_two_pow (n := 32) ab ac)) (lt64 bc)) ?_
  rw [show ((x.a &&& x.b) ^^^ (x.a &&& x.c)) ^^^ (x.b &&& x.c) = majF x.a x.b x.c from rfl]
  have hmj : majF x.a x.b x.c < 4294967296 := majF_lt hxo.b hxo.c
  refine opP_i (idxPtr_ok (by omega) (by omega)) ?_
  refine load_at hO _ i15 (v := u64 x.a) rfl ?_
  refine right_spec (n := 2) hxo.a (by omega) (by omega) ?_
  refine opP_i (idxPtr_ok (by omega) (by omega)) ?_
  refine load_at hO _ i15 (v := u64 x.a) rfl ?_
  refine ⟨sm, ?_⟩
  refine right_spec (n := 13) hxo.a (by omega) (by omega) ?_
  refine opP_i (bin_xorU (k := .u64) rfl (lt64 b2) (lt64 b13)) ?_
  refine opP_i (idxPtr_ok (by omega) (by omega)) ?_
  refine load_at hO _ i15 (v := u64 x.a) rfl ?_
  refine ⟨sm, sm, ?_⟩
  refine right_spec (n := 22) hxo.a (by omega) (by omega) ?_
  refine opP_i (bin_xorU (k := .u64) rfl (lt64 (Nat.xor_lt_two_pow (n := 32) b2 b13)) (lt64 b22)) ?_
  rw [← turn3]
  have hS0 : turnN x.a [2, 13, 22] < 4294967296 := turnN_lt hxo.a
  have hd := hxo.d
  refine opP_i (add64 (by omega)) ?_
  refine opP_i (add64 (by omega)) ?_
  refine opP_i mod64 ?_
  refine opP_i (idxPtr_ok (by omega) (by omega)) ?_
  refine load_at hO _ i15 (v := u64 x.a) rfl ?_
  refine opP_i (idxPtr_ok (by omega) (by omega)) ?_
  refine load_at hO _ i15 (v := u64 x.b) rfl ?_
  refine opP_i (idxPtr_ok (by omega) (by omega)) ?_
  refine load_at hO _ i15 (v := u64 x.c) rfl ?_
  refine opP_i (idxPtr_ok (by omega) (by omega)) ?_
  refine load_at hO _ i15 (v := u64 x.d) rfl ?_
  refine opP_i (add64 (by omega)) ?_
  refine opP_i mod64 ?_
  refine opP_i (idxPtr_ok (by omega) (by omega)) ?_
  refine load_at hO _ i15 (v := u64 x.e) rfl ?_
  refine opP_i (idxPtr_ok (by omega) (by omega)) ?_
  refine load_at hO _ i15 (v := u64 x.f) rfl ?_
  refine opP_i (idxPtr_ok (by omega) (by omega)) ?_
  refine load_at hO _ i15 (v := u64 x.g) rfl ?_
  refine opP_i (b8 _ _ _ _ _ _ _ _) ?_
  refine storeAll_at hO _ i15 rfl rfl rfl ?_
  clear hO sm sm8 sm10
  intro H hO
  replace hO := hO.set_r
  have e1 : (x.h + turnN x.e [6, 11, 25] + chF x.e x.f x.g + kTab.getD y 0 + ws.getD y 0 + (turnN x.a [2, 13, 22] + majF x.a x.b x.c)) % 4294967296 = (t1F x (kTab.getD y 0) (ws.getD y 0) + t2F x) % 4294967296 := by
    unfold t1F t2F
    rw [← Nat.add_mod]
  have e2 : (x.d + (x.h + turnN x.e [6, 11, 25] + chF x.e x.f x.g + kTab.getD y 0 + ws.getD y 0)) % 4294967296 = (x.d + t1F x (kTab.getD y 0) (ws.getD y 0)) % 4294967296 := by
    unfold t1F
    rw [Nat.add_mod_mod]
  rw [e1, e2] at hO
  repeat (first | refine oi ?_ | refine ow ?_ | refine wy ?_ | refine wn ?_ | refine wt ?_ | refine wf' ?_ | refine cy ?_ | refine cn ?_)
  refine ⟨64 - (y + 1), by omega, y + 1, by omega, rfl, rfl, ?_⟩
  rw [er]
  exact hO
end J
set_option linter.unusedVariables false
set_option linter.unusedSimpArgs false
set_option maxRecDepth 100000
namespace J
open Go Go.Ab
variable {H : Heap} {Γ Γ0 Γ2 Δ G : List (Nat × Blk)} {K : Value → Heap → Prop} {v w x : Value} {xs ys zs bs b data : List Int} {j p pd pz : Nat} {e : Int} {cs : List Value}
theorem bW64 : (buildC P 98).f [] = some (agg (wL [])) := by kernel_rfl
theorem zcR64 : zc P 98 = wL [] := by kernel_rfl
theorem zcR8 : zc P 96 = List.replicate 8 (u64 0) := by kernel_rfl
theorem first_spec (hO : St H Γ) (hk : ∀ H', St H' Γ → K (agg (l8 begW)) H') : wCall P n_ref02_first [] H K := by
  apply ref02_first_ok; unfold ref02_first
  rw [zcR8]
  refine new_at hO ?_
  clear hO
  intro p H hO
  refine opP_i (v := agg (l8 begW)) (by kernel_rfl) ?_
  refine storeAll_at hO (Γ.length + 0) (at_r rfl) rfl rfl rfl ?_
  clear hO
  intro H hO
  replace hO := hO.set_r
  refine loadAll_at hO (Γ.length + 0) (at_r rfl) rfl (by omega) ?_
  exact hk _ hO.left
theorem rounds_spec (hO : St H Γ) (hk : ∀ H', St H' Γ → K (agg (kTab.map fun (n : Nat) => u64 n)) H') : wCall P n_ref02_rounds [] H K := by
  apply ref02_rounds_ok; unfold ref02_rounds
  rw [zcR64]
  refine new_at hO ?_
  clear hO
  intro p H hO
  refine opP_i (v := agg (kTab.map fun (n : Nat) => u64 n)) (by kernel_rfl) ?_
  refine storeAll_at hO (Γ.length + 0) (at_r rfl) rfl rfl rfl ?_
  clear hO
  intro H hO
  replace hO := hO.set_r
  refine loadAll_at hO (Γ.length + 0) (at_r rfl) rfl (by omega) ?_
  exact hk _ hO.left
theorem w8_lt {s : W8} (h : s.Ok) : ∀ x ∈ s.l, x < 4294967296 := by
  intro x hx
  simp only [W8.l, List.mem_cons, List.not_mem_nil, or_false] at hx
  rcases hx with rfl | rfl | rfl | rfl | rfl | rfl | rfl | rfl
  · exact h.a
  · exact h.b
  · exact h.c
  · exact h.d
  · exact h.e
  · exact h.f
  · exact h.g
  · exact h.h
theorem r_L6 {s R : W8} {p2 p7 p8 p15 at' : Nat} {B : Blk} {T : List (Nat × Blk)} {Qx : Nat → List Value → Heap → Prop} {Qr : List Value → Heap → Prop} (hs : s.Ok) (hR : R.Ok) (i15 : T[1]? = some (p15, ⟨l8 R, true⟩))
    (hO : St H (Γ ++ ([(p7, ⟨l8 s, true⟩), (p8, B)] ++ T)))
    (hk : ∀ H', St H' (Γ ++ ([(p7, ⟨l8 (addW s R), true⟩), (p8, B)] ++ T)) → Qx 12 [ptr p2 0, v, ptr p7 0, ptr p8 0, int at'] H') :
    wLoop P true 252 ref02_Sum_P6 908 [ptr p2 0, v, ptr p7 0, ptr p8 0, int at', ptr p15 0, int 0] H Qx Qr := by
  refine ref02_Sum_L6_ind (fun k l' H' => ∃ (y : Nat), y ≤ 8 ∧ k = 8 - y ∧ l' = [ptr p2 0, v, ptr p7 0, ptr p8 0, int at', ptr p15 0, int y] ∧ St H' (Γ ++ ([(p7, ⟨(addL s.l R.l y).map fun (n : Nat) => u64 n, true⟩), (p8, B)] ++ T))) _ _ ?_ 8 _ _ ⟨0, by omega, rfl, rfl, hO⟩
  clear hO
  rintro k l' H ⟨y, hy, rfl, rfl, hO⟩
  unfold ref02_Sum_L6
  try simp only [nth_zero, nth_succ]
  have hls : s.l.length = 8 := rfl
  have hlR : R.l.length = 8 := rfl
  refine opP_i bin_lss ?_
  refine wIf_dec (fun h => ?_) (fun h => ?_)
  · have hy8 : y < 8 := by omega
    have b1 : s.l.getD y 0 < 4294967296 := getD_lt (w8_lt hs) y
    have b2 : R.l.getD y 0 < 4294967296 := getD_lt (w8_lt hR) y
    have a1 : ((addL s.l R.l y).map fun (n : Nat) => u64 n)[0 + y * 1]? = some (u64 (s.l.getD y 0)) := by
      rw [show 0 + y * 1 = y by omega, List.getElem?_map, addL_at (by omega), if_neg (by omega)]; rfl
    have a2 : (l8 R)[0 + y * 1]? = some (u64 (R.l.getD y 0)) := by
      unfold l8
      rw [show 0 + y * 1 = y by omega, List.getElem?_map, List.getElem?_eq_getElem (by omega), List.getD_eq_getElem?_getD, List.getElem?_eq_getElem (by omega)]; rfl
    have a3 : ((addL s.l R.l y).map fun (n : Nat) => u64 n).set (0 + y * 1) (u64 ((s.l.getD y 0 + R.l.getD y 0) % 4294967296)) = (addL s.l R.l (y + 1)).map fun (n : Nat) => u64 n := by
      rw [← addL_set (by omega), List.map_set, show 0 + y * 1 = y by omega]
    refine opP_i (idxPtr_ok (by omega) (by omega)) ?_
    rw [Int.toNat_natCast]
    refine load_at hO (Γ.length + 0) (at_r rfl) a1 ?_
    refine opP_i (idxPtr_ok (by omega) (by omega)) ?_
    rw [Int.toNat_natCast]
    refine load_at hO (Γ.length + (2 + 1)) (at_r (at_r (Γ := [_, _]) i15)) a2 ?_
    refine opP_i (add64 (by omega)) ?_
    refine opP_i mod64 ?_
    refine opP_i (idxPtr_ok (by omega) (by omega)) ?_
    rw [Int.toNat_natCast]
    refine store1_at hO (Γ.length + 0) (at_r rfl) rfl (set_nat a1) a3 ?_
    clear hO
    intro H hO
    replace hO := hO.set_r
    repeat (first | refine oi ?_ | refine ow ?_ | refine wy ?_ | refine wn ?_ | refine wt ?_ | refine wf' ?_ | refine cy ?_ | refine cn ?_)
    exact ⟨_, by omega, y + 1, by omega, rfl, rfl, hO⟩
  · have ey : y = 8 := by omega
    subst ey
    rw [addL_8] at hO
    exact hk _ hO
theorem r_L7 {s : W8} {p2 p7 p23 : Nat} {T : List (Nat × Blk)} {Qx : Nat → List Value → Heap → Prop} {Qr : List Value → Heap → Prop} (hs : s.Ok) {j7 : Nat} (h7 : Γ[j7]? = some (p7, ⟨l8 s, true⟩)) (hO : St H (Γ ++ [(p23, ⟨outC [], true⟩)]))
    (hk : ∀ H', St H' (Γ ++ [(p23, ⟨by8 (hashB s), true⟩)]) → Qx 14 [ptr p2 0, ptr p23 0] H') :
    wLoop P true 252 ref02_Sum_P7 8388612 [ptr p2 0, ptr p7 0, ptr p23 0, int 0] H Qx Qr := by
  refine ref02_Sum_L7_ind (fun k l' H' => ∃ (y : Nat), y ≤ 32 ∧ k = 32 - y ∧ l' = [ptr p2 0, ptr p7 0, ptr p23 0, int y] ∧ St H' (Γ ++ [(p23, ⟨outC ((hashB s).take y), true⟩)])) _ _ ?_ 32 _ _ ⟨0, by omega, rfl, rfl, hO⟩
  clear hO
  rintro k l' H ⟨y, hy, rfl, rfl, hO⟩
  unfold ref02_Sum_L7
  try simp only [nth_zero, nth_succ]
  refine opP_i bin_lss ?_
  refine wIf_dec (fun h => ?_) (fun h => ?_)
  · have hlen : ((hashB s).take y).length = y := by rw [List.length_take, hashB_len]; omega
    have hm : y / 4 < 8 := by omega
    have hi : y % 4 < 4 := by omega
    have a2 : (l8 s)[0 + y / 4 * 1]? = some (u64 (s.l.getD (y / 4) 0)) := by
      have hlR : s.l.length = 8 := rfl
      unfold l8
      rw [show 0 + y / 4 * 1 = y / 4 by omega, List.getElem?_map, List.getElem?_eq_getElem (by omega), List.getD_eq_getElem?_getD, List.getElem?_eq_getElem (by omega)]; rfl
    refine opP_i (quo_i (b := 4) (by omega) (by omega)) ?_
    refine opP_i (idxPtr_ok (by omega) (by omega)) ?_
    rw [Int.toNat_natCast]
    refine load_at hO j7 (at_l h7) a2 ?_
    refine opP_i (v := int ((y % 4 : Nat) : Int)) (bin_remU (k := .i64) (b := 4) (by decide)) ?_
    refine opP_i (v := int ((8 * (y % 4) : Nat) : Int)) (by rw [bin_muli (by omega) (by omega)]; congr 2 <;> omega) ?_
    refine opP_i (v := int ((24 - 8 * (y % 4) : Nat) : Int)) (by rw [bin_subi (by omega) (by omega)]; congr 2 <;> omega) ?_
    refine opP_i (bin_shrU (k := .u64) rfl (show 24 - 8 * (y % 4) ≤ 64 by omega)) ?_
    refine opP_i (bin_remU (k := .u64) (b := 256) (by decide)) ?_
    refine opW_i (cvU (k' := .u8) rfl) ?_
    refine opP_i (idxPtr_ok (by omega) (by omega)) ?_
    rw [Int.toNat_natCast]
    refine store1_at hO (Γ.length + 0) (at_r rfl) rfl (show 0 + y * 1 < (outC ((hashB s).take y)).length by rw [outC_len (by omega)]; omega) (show _ = outC ((hashB s).take (y + 1)) from ?_) ?_
    · have h1 := hash_step (s := s) hm hi
      rw [show 4 * (y / 4) + y % 4 = y by omega] at h1
      rw [← h1, ← outC_set (by omega), hlen, show 0 + y * 1 = y by omega]
      rw [show szU .u8 = 256 from rfl, Nat.mod_mod]
    clear hO
    intro H hO
    replace hO := hO.set_r
    repeat (first | refine oi ?_ | refine ow ?_ | refine wy ?_ | refine wn ?_ | refine wt ?_ | refine wf' ?_ | refine cy ?_ | refine cn ?_)
    exact ⟨32 - (y + 1), by omega, y + 1, by omega, rfl, rfl, hO⟩
  · have hy : y = 32 := by omega
    subst hy
    have e : outC ((hashB s).take 32) = by8 (hashB s) := by
      rw [List.take_of_length_le (by rw [hashB_len]; omega)]
      unfold outC
      rw [hashB_len, Nat.sub_self, List.replicate_zero, List.append_nil]
    rw [e] at hO
    exact hk H hO
theorem r_L0 {t0 : Value} {p2 : Nat} {Qx : Nat → List Value → Heap → Prop} {Qr : List Value → Heap → Prop} (hO : St H (Γ ++ outB v cs)) (hv : OwnB v (xs ++ [128]) cs) (hl : xs.length ≤ 90000000)
    (hk : ∀ H' v' cs', St H' (Γ ++ outB v' cs') → OwnB v' (xs ++ [128] ++ List.replicate (padZ xs.length) 0) cs' → Qx 0 [t0, ptr p2 0, v'] H') :
    wLoop P true 252 ref02_Sum_P0 13 [t0, ptr p2 0, v] H Qx Qr := by
  refine ref02_Sum_L0_ind (fun k l' H' => ∃ (y : Nat) (v : Value) (cs : List Value), y ≤ padZ xs.length ∧ k = padZ xs.length - y ∧ l' = [t0, ptr p2 0, v] ∧ St H' (Γ ++ outB v cs) ∧ OwnB v (xs ++ [128] ++ List.replicate y 0) cs) _ _ ?_ (padZ xs.length) _ _ ⟨0, v, cs, by omega, rfl, rfl, hO, by rw [List.replicate_zero, List.append_nil]; exact hv⟩
  clear hO hv
  rintro k l' H ⟨y, v, cs, hy, rfl, rfl, hO, hv⟩
  unfold ref02_Sum_L0
  try simp only [nth_zero, nth_succ]
  have hlen : (xs ++ [128] ++ List.replicate y (0 : Int)).length = xs.length + 1 + y := by simp; omega
  have hpz : padZ xs.length < 64 := Nat.mod_lt _ (by decide)
  refine opW_i hv.lenSl ?_
  refine opP_i (v := int (((xs ++ [128] ++ List.replicate y (0 : Int)).length % 64 : Nat) : Int)) (bin_remU (k := .i64) (b := 64) (by decide)) ?_
  rw [hlen]
  refine opP_i bin_neq ?_
  refine wIf_dec (fun h => ?_) (fun h => ?_)
  · have hlt : y < padZ xs.length := by
      unfold padZ at hy ⊢
      omega
    refine newSl_at hO (bsB1 0 _) ?_
    clear hO
    intro q H hO
    refine append_new (ys := [0]) hO hv (by rw [hlen]; simp; omega) rfl (.inr rfl) ?_
    clear hO hv
    intro H v cs hO hv
    rw [List.append_assoc _ (List.replicate y 0), ← List.replicate_succ'] at hv
    exact ⟨padZ xs.length - (y + 1), by omega, y + 1, v, cs, by omega, rfl, rfl, hO, hv⟩
  · have hy : y = padZ xs.length := by
      unfold padZ at hy ⊢
      omega
    subst hy
    exact hk H v cs hO hv
theorem fac_at : ∀ y, y < 8 → 72057594037927936 / 256 ^ y = 2 ^ (56 - 8 * y) := by decide
theorem r_L1 {p2 n : Nat} {Qx : Nat → List Value → Heap → Prop} {Qr : List Value → Heap → Prop} (hO : St H (Γ ++ outB v cs)) (hv : OwnB v zs cs) (hl : zs.length ≤ 95000000) (hn : n < 18446744073709551616)
    (hk : ∀ H' v' cs', St H' (Γ ++ outB v' cs') → OwnB v' (zs ++ be8 n) cs' → Qx 2 [ptr p2 0, v'] H') :
    wLoop P true 252 ref02_Sum_P1 12 [ptr p2 0, v, uint .u64 n, .int .u64 72057594037927936, int 0] H Qx Qr := by
  refine ref02_Sum_L1_ind (fun k l' H' => ∃ (y : Nat) (v : Value) (cs : List Value), y ≤ 8 ∧ k = 8 - y ∧ l' = [ptr p2 0, v, uint .u64 n, uint .u64 (72057594037927936 / 256 ^ y), int y] ∧ St H' (Γ ++ outB v cs) ∧ OwnB v (zs ++ (be8 n).take y) cs) _ _ ?_ 8 _ _ ⟨0, v, cs, by omega, rfl, rfl, hO, by rw [List.take_zero, List.append_nil]; exact hv⟩
  clear hO hv
  rintro k l' H ⟨y, v, cs, hy, rfl, rfl, hO, hv⟩
  unfold ref02_Sum_L1
  try simp only [nth_zero, nth_succ]
  refine opP_i bin_lss ?_
  refine wIf_dec (fun h => ?_) (fun h => ?_)
  · have hy8 : y < 8 := by omega
    have hf := fac_at y hy8
    have hp : 0 < 2 ^ (56 - 8 * y) := Nat.two_pow_pos _
    refine opP_i (bin_quoU (k := .u64) rfl (by rw [hf]; exact hp) hn) ?_
    rw [hf]
    refine opP_i (bin_remU (k := .u64) (b := 256) (by decide)) ?_
    refine opW_i (cvU (k' := .u8) rfl) ?_
    rw [show szU .u8 = 256 from rfl, Nat.mod_mod]
    refine newSl_at hO (bsB1 _ _) ?_
    clear hO
    intro q H hO
    refine append_new (ys := [((n / 2 ^ (56 - 8 * y) % 256 : Nat) : Int)]) hO hv (by rw [List.length_append, List.length_take]; simp; omega) rfl (.inr rfl) ?_
    clear hO hv
    intro H v cs hO hv
    have e : (be8 n).take y ++ [((n / 2 ^ (56 - 8 * y) % 256 : Nat) : Int)] = (be8 n).take (y + 1) := by
      rw [List.take_add_one, be8_at hy8]; rfl
    rw [List.append_assoc, e] at hv
    have hb : 2 ^ (56 - 8 * y) < szU .u64 := Nat.lt_of_le_of_lt (Nat.pow_le_pow_right (by omega) (show 56 - 8 * y ≤ 56 by omega)) (by decide)
    refine opP_i (bin_quoU (k := .u64) (b := 256) rfl (by decide) hb) ?_
    repeat (first | refine oi ?_ | refine ow ?_ | refine wy ?_ | refine wn ?_ | refine wt ?_ | refine wf' ?_ | refine cy ?_ | refine cn ?_)
    refine ⟨8 - (y + 1), by omega, y + 1, v, cs, by omega, rfl, ?_, hO, hv⟩
    rw [← hf, Nat.div_div_eq_div_mul, ← Nat.pow_succ]
    rfl
  · have hy : y = 8 := by omega
    subst hy
    rw [List.take_of_length_le (by rw [be8_len]; omega)] at hv
    exact hk H v cs hO hv
theorem r_L2 {p2 p7 p8 : Nat} {Qx : Nat → List Value → Heap → Prop} {Qr : List Value → Heap → Prop} (hv : RdB Γ v data) (hb : ∀ x ∈ data, 0 ≤ x ∧ x ≤ 255) (hm : data.length % 64 = 0) (hl : data.length ≤ 1000000000)
    (hO : St H (Γ ++ [(p7, ⟨l8 begW, true⟩), (p8, ⟨kTab.map fun (n : Nat) => u64 n, true⟩)]))
    (hk : ∀ H', St H' (Γ ++ [(p7, ⟨l8 (dSt data), true⟩), (p8, ⟨kTab.map fun (n : Nat) => u64 n, true⟩)]) → Qx 4 [ptr p2 0, ptr p7 0] H') :
    wLoop P true 252 ref02_Sum_P2 132 [ptr p2 0, v, ptr p7 0, ptr p8 0, int 0] H Qx Qr := by
  refine ref02_Sum_L2_ind (fun k l' H' => ∃ (y : Nat), 64 * y ≤ data.length ∧ k = data.length / 64 - y ∧ l' = [ptr p2 0, v, ptr p7 0, ptr p8 0, int ((64 * y : Nat) : Int)] ∧ St H' (Γ ++ [(p7, ⟨l8 (stN data y), true⟩), (p8, ⟨kTab.map fun (n : Nat) => u64 n, true⟩)])) _ _ ?_ (data.length / 64) _ _ ⟨0, by omega, rfl, rfl, hO⟩
  clear hO
  rintro k l' H ⟨y, hy, rfl, rfl, hO⟩
  unfold ref02_Sum_L2
  try simp only [nth_zero, nth_succ]
  refine opW_i hv.lenSl ?_
  refine opP_i bin_lss ?_
  refine wIf_dec (fun h => ?_) (fun h => ?_)
  · have hy64 : 64 * y + 64 ≤ data.length := by omega
    have hbb : ∀ x ∈ (data.drop (64 * y)).take 64, 0 ≤ x ∧ x ≤ 255 := fun x hx => hb x (List.mem_of_mem_drop (List.mem_of_mem_take hx))
    refine opP_i bW64 ?_
    rw [zcR64]
    refine new_at hO ?_
    clear hO
    intro p10 H hO
    refine storeAll_at hO (_ + 0) (at_r rfl) rfl rfl rfl ?_
    clear hO
    intro H hO
    replace hO := hO.set_r
    refine r_L3 hv.app hb hy64 hl hO ?_
    clear hO
    intro H hO
    refine cond_yes rfl ?_
    try simp only [nth_zero, nth_succ]
    refine loadAll_at hO (Γ.length + 0) (at_l (at_r rfl)) rfl (by omega) ?_
    rw [zcR8]
    refine new_at hO ?_
    clear hO
    intro p15 H hO
    refine storeAll_at hO (_ + 0) (at_r rfl) rfl rfl rfl ?_
    clear hO
    intro H hO
    replace hO := hO.set_r
    refine r_L5 (s := stN data y) (ws := wUp ((data.drop (64 * y)).take 64) 64) (stN_ok y) (wUp_lt hbb 64) (wUp_len 64) (j8 := Γ.length + 1) (j10 := _ + 0) (at_l (at_r rfl)) (at_r rfl) hO ?_
    clear hO
    intro H hO
    refine cond_yes rfl ?_
    try simp only [nth_zero, nth_succ]
    rw [List.append_assoc, List.append_assoc] at hO
    refine r_L6 (s := stN data y) (R := rndN (wUp ((data.drop (64 * y)).take 64) 64) (stN data y) 64) (T := [(p10, _), (p15, _)]) (stN_ok y) (rndN_ok (stN_ok y) 64) rfl hO ?_
    clear hO
    intro H hO
    refine cond_yes rfl ?_
    try simp only [nth_zero, nth_succ]
    refine opP_i (v := int ((64 * (y + 1) : Nat) : Int)) (by rw [bin_addi (by omega) (by omega)]; congr 2 <;> omega) ?_
    refine ⟨data.length / 64 - (y + 1), by omega, y + 1, by omega, rfl, rfl, ?_⟩
    rw [← List.append_assoc] at hO
    exact hO.left
  · have ey : y = data.length / 64 := by omega
    subst ey
    exact hk _ hO
set_option maxHeartbeats 1000000 in
theorem rSum_spec (hO : St H Γ) (hx : RdB Γ x xs) (hb : ∀ x ∈ xs, 0 ≤ x ∧ x ≤ 255) (hl : xs.length ≤ 80000000) (hk : ∀ H', St H' Γ → K (agg (by8 (sha xs))) H') : wCall P n_ref02_Sum [x] H K := by
  apply ref02_Sum_ok; unfold ref02_Sum
  rw [zcB32]
  refine new_at hO ?_
  clear hO
  intro p2 H hO
  refine newSl_at hO (bs46_0 _) ?_
  clear hO
  intro q H hO
  refine append_by (v := sl q 0 0 3) (cs := []) (xs := []) hO (.inr ⟨q, .inr ⟨rfl, rfl⟩, rfl, Nat.le_refl _, rfl⟩) hx.app (by simp; omega) ?_
  clear hO
  intro H v cs hO hv
  refine newSl_at hO (bsB1 128 _) ?_
  clear hO
  intro q2 H hO
  refine append_new (ys := [128]) hO hv (by simp; omega) rfl (.inr rfl) ?_
  clear hO hv
  intro H v cs hO hv
  refine r_L0 (xs := xs) hO hv (by omega) ?_
  clear hO hv
  intro H v cs hO hv
  refine cond_yes rfl ?_
  try simp only [nth_zero, nth_succ]
  have hpz : padZ xs.length < 64 := Nat.mod_lt _ (by decide)
  have hpl := padB_len (xs := xs)
  have hpb : ∀ x ∈ padB xs, 0 ≤ x ∧ x ≤ 255 := by_app (by_app (by_app hb (u8_by (by decide))) rep_by) be8_by
  have hpm : (padB xs).length ≤ 1000000000 := by
    unfold padB
    rw [List.length_append, List.length_append, List.length_append, List.length_replicate, be8_len]
    show xs.length + 1 + padZ xs.length + 8 ≤ _
    omega
  refine opW_i hx.lenSl ?_
  refine opW_i (cvIU (by omega) (by omega)) ?_
  rw [Int.toNat_natCast]
  refine opP_i (v := uint .u64 (8 * xs.length)) (by
    rw [show (Value.int .u64 8) = uint .u64 8 from rfl, bin_mulU (k := .u64) rfl, Nat.mod_eq_of_lt (show xs.length * 8 < szU .u64 from (show _ < 18446744073709551616 by omega)), Nat.mul_comm]) ?_
  refine r_L1 hO hv (by simp; omega) (by omega) ?_
  clear hO hv
  intro H v cs hO hv
  replace hv : OwnB v (padB xs) cs := hv
  refine cond_yes rfl ?_
  try simp only [nth_zero, nth_succ]
  refine first_spec hO ?_
  clear hO
  intro H hO
  refine rounds_spec hO ?_
  clear hO
  intro H hO
  rw [zcR8, zcR64]
  refine new_at hO ?_
  clear hO
  intro p7 H hO
  refine new_at hO ?_
  clear hO
  intro p8 H hO
  rw [List.append_assoc _ [_] [_]] at hO
  refine storeAll_at hO (_ + 0) (at_r (L := [_] ++ [_]) rfl) rfl rfl rfl ?_
  clear hO
  intro H hO
  replace hO := hO.set_r
  refine storeAll_at hO (_ + 1) (at_r (L := [_, _]) rfl) rfl rfl rfl ?_
  clear hO
  intro H hO
  replace hO := hO.set_r
  refine r_L2 (data := padB xs) hv.rd.app' hpb hpl hpm hO ?_
  clear hO
  intro H hO
  refine cond_yes rfl ?_
  try simp only [nth_zero, nth_succ]
  refine opP_i (v := agg (outC [])) (by kernel_rfl) ?_
  rw [show List.replicate 32 (uint .u8 0) = outC [] from rfl] at hO ⊢
  refine new_at hO ?_
  clear hO
  intro p23 H hO
  refine storeAll_at hO (_ + 0) (at_r rfl) rfl rfl rfl ?_
  clear hO
  intro H hO
  replace hO := hO.set_r
  refine r_L7 (s := dSt (padB xs)) (T := []) (stN_ok _) (j7 := _ + 0) (at_r (L := [_, _]) rfl) hO ?_
  clear hO
  intro H hO
  refine cond_yes rfl ?_
  try simp only [nth_zero, nth_succ]
  refine loadAll_at hO (_ + 0) (at_r rfl) rfl (by omega) ?_
  refine storeAll_at hO (Γ.length + 0) (at_l (at_l (at_l (at_r rfl)))) rfl rfl (by8_one _) ?_
  clear hO
  intro H hO
  rw [List.set_append_left _ _ (by simp), List.set_append_left _ _ (by simp), List.set_append_left _ _ (by simp), Go.Ab.set_r] at hO
  refine loadAll_at hO (Γ.length + 0) (at_l (at_l (at_l (at_r rfl)))) rfl (by omega) ?_
  exact hk H hO.left.left.left.left
end J
set_option linter.unusedVariables false
set_option linter.unusedSimpArgs false
set_option maxRecDepth 100000
namespace J
open Go Go.Ab
variable {H : Heap} {Γ Γ0 Γ2 Δ G : List (Nat × Blk)} {K : Value → Heap → Prop} {v w x : Value} {xs ys zs bs b data : List Int} {j p pd pz : Nat} {e : Int} {cs : List Value} {s : Sl}
theorem ref10_Right_spec (hO : St H Γ) (hk : ∀ H', St H' Γ → K (.bool (decide (SRight s))) H') : wCall P n_ref10_Right [agg (slC s)] H K := by
  apply ref10_Right_ok; unfold ref10_Right
  refine new_at hO ?_
  intro p H hO
  refine join_with (fun l' H' => l' = [ptr p 0, .bool (decide (SNone s))] ∧ H' = H) ?_ ?_
  · repeat (first | refine oi ?_ | refine ow ?_ | refine wy ?_ | refine wn ?_ | refine wt ?_ | refine wf' ?_ | refine cy ?_ | refine cn ?_ | refine ld hO 0 rfl rfl ?_ | refine ld hO 1 rfl rfl ?_ | refine ld hO 2 rfl rfl ?_ | refine ld hO 3 rfl rfl ?_ | refine ld hO 4 rfl rfl ?_ | refine ld hO 5 rfl rfl ?_)
    by_cases h1 : s.tr = 0
    · repeat (first | refine oi ?_ | refine ow ?_ | refine wy ?_ | refine wn ?_ | refine wt ?_ | refine wf' ?_ | refine cy ?_ | refine cn ?_ | refine ld hO 0 rfl rfl ?_ | refine ld hO 1 rfl rfl ?_ | refine ld hO 2 rfl rfl ?_ | refine ld hO 3 rfl rfl ?_ | refine ld hO 4 rfl rfl ?_ | refine ld hO 5 rfl rfl ?_)
      by_cases h2 : s.ver = 0
      · repeat (first | refine oi ?_ | refine ow ?_ | refine wy ?_ | refine wn ?_ | refine wt ?_ | refine wf' ?_ | refine cy ?_ | refine cn ?_ | refine ld hO 0 rfl rfl ?_ | refine ld hO 1 rfl rfl ?_ | refine ld hO 2 rfl rfl ?_ | refine ld hO 3 rfl rfl ?_ | refine ld hO 4 rfl rfl ?_ | refine ld hO 5 rfl rfl ?_)
        by_cases h3 : s.sz = 0
        · repeat (first | refine oi ?_ | refine ow ?_ | refine wy ?_ | refine wn ?_ | refine wt ?_ | refine wf' ?_ | refine cy ?_ | refine cn ?_ | refine ld hO 0 rfl rfl ?_ | refine ld hO 1 rfl rfl ?_ | refine ld hO 2 rfl rfl ?_ | refine ld hO 3 rfl rfl ?_ | refine ld hO 4 rfl rfl ?_ | refine ld hO 5 rfl rfl ?_)
          refine loadAgg_at hO (Γ.length + 0) (at_r rfl) (show _ = dgC s.dg from rfl) rfl (by omega) ?_
          refine opP_i b24 ?_
          refine opP_i (eq24 _ _ _) ?_
          repeat (first | refine oi ?_ | refine ow ?_ | refine wy ?_ | refine wn ?_ | refine wt ?_ | refine wf' ?_ | refine cy ?_ | refine cn ?_ | refine ld hO 0 rfl rfl ?_ | refine ld hO 1 rfl rfl ?_ | refine ld hO 2 rfl rfl ?_ | refine ld hO 3 rfl rfl ?_ | refine ld hO 4 rfl rfl ?_ | refine ld hO 5 rfl rfl ?_)
          refine ⟨?_, rfl⟩
          rw [show decide (SNone s) = eqCells (dgC s.dg) (dgC fun _ => 0) from by rw [Bool.eq_iff_iff, decide_eq_true_iff]; exact ⟨fun h => h.2.2.2, fun h => ⟨h1, h2, h3, h⟩⟩]
        · repeat (first | refine oi ?_ | refine ow ?_ | refine wy ?_ | refine wn ?_ | refine wt ?_ | refine wf' ?_ | refine cy ?_ | refine cn ?_ | refine ld hO 0 rfl rfl ?_ | refine ld hO 1 rfl rfl ?_ | refine ld hO 2 rfl rfl ?_ | refine ld hO 3 rfl rfl ?_ | refine ld hO 4 rfl rfl ?_ | refine ld hO 5 rfl rfl ?_)
          rw [decide_eq_false (show ¬ SNone s from fun h => h3 h.2.2.1)]; exact ⟨rfl, rfl⟩
      · repeat (first | refine oi ?_ | refine ow ?_ | refine wy ?_ | refine wn ?_ | refine wt ?_ | refine wf' ?_ | refine cy ?_ | refine cn ?_ | refine ld hO 0 rfl rfl ?_ | refine ld hO 1 rfl rfl ?_ | refine ld hO 2 rfl rfl ?_ | refine ld hO 3 rfl rfl ?_ | refine ld hO 4 rfl rfl ?_ | refine ld hO 5 rfl rfl ?_)
        rw [decide_eq_false (show ¬ SNone s from fun h => h2 h.2.1)]; exact ⟨rfl, rfl⟩
    · repeat (first | refine oi ?_ | refine ow ?_ | refine wy ?_ | refine wn ?_ | refine wt ?_ | refine wf' ?_ | refine cy ?_ | refine cn ?_ | refine ld hO 0 rfl rfl ?_ | refine ld hO 1 rfl rfl ?_ | refine ld hO 2 rfl rfl ?_ | refine ld hO 3 rfl rfl ?_ | refine ld hO 4 rfl rfl ?_ | refine ld hO 5 rfl rfl ?_)
      rw [decide_eq_false (show ¬ SNone s from fun h => h1 h.1)]; exact ⟨rfl, rfl⟩
  rintro l' H' ⟨rfl, rfl⟩
  refine join_with (fun l' H => l' = [ptr p 0, .bool (decide (SNone s)), .bool (decide (SImg s))] ∧ H = H') ?_ ?_
  · try simp only [nth_zero, nth_succ]
    repeat (first | refine oi ?_ | refine ow ?_ | refine wy ?_ | refine wn ?_ | refine wt ?_ | refine wf' ?_ | refine cy ?_ | refine cn ?_ | refine ld hO 0 rfl rfl ?_ | refine ld hO 1 rfl rfl ?_ | refine ld hO 2 rfl rfl ?_ | refine ld hO 3 rfl rfl ?_ | refine ld hO 4 rfl rfl ?_ | refine ld hO 5 rfl rfl ?_)
    by_cases h1 : 1 ≤ s.ver
    · repeat (first | refine oi ?_ | refine ow ?_ | refine wy ?_ | refine wn ?_ | refine wt ?_ | refine wf' ?_ | refine cy ?_ | refine cn ?_ | refine ld hO 0 rfl rfl ?_ | refine ld hO 1 rfl rfl ?_ | refine ld hO 2 rfl rfl ?_ | refine ld hO 3 rfl rfl ?_ | refine ld hO 4 rfl rfl ?_ | refine ld hO 5 rfl rfl ?_)
      by_cases h2 : s.ver ≤ 281474976710656
      · repeat (first | refine oi ?_ | refine ow ?_ | refine wy ?_ | refine wn ?_ | refine wt ?_ | refine wf' ?_ | refine cy ?_ | refine cn ?_ | refine ld hO 0 rfl rfl ?_ | refine ld hO 1 rfl rfl ?_ | refine ld hO 2 rfl rfl ?_ | refine ld hO 3 rfl rfl ?_ | refine ld hO 4 rfl rfl ?_ | refine ld hO 5 rfl rfl ?_)
        by_cases h3 : 1 ≤ s.sz
        · repeat (first | refine oi ?_ | refine ow ?_ | refine wy ?_ | refine wn ?_ | refine wt ?_ | refine wf' ?_ | refine cy ?_ | refine cn ?_ | refine ld hO 0 rfl rfl ?_ | refine ld hO 1 rfl rfl ?_ | refine ld hO 2 rfl rfl ?_ | refine ld hO 3 rfl rfl ?_ | refine ld hO 4 rfl rfl ?_ | refine ld hO 5 rfl rfl ?_)
          rw [show decide (SImg s) = decide (s.sz ≤ 65536) from decide_eq_decide.2 (by unfold SImg; omega)]
          exact ⟨(by first | rfl | trivial), (by first | rfl | trivial)⟩
        · repeat (first | refine oi ?_ | refine ow ?_ | refine wy ?_ | refine wn ?_ | refine wt ?_ | refine wf' ?_ | refine cy ?_ | refine cn ?_ | refine ld hO 0 rfl rfl ?_ | refine ld hO 1 rfl rfl ?_ | refine ld hO 2 rfl rfl ?_ | refine ld hO 3 rfl rfl ?_ | refine ld hO 4 rfl rfl ?_ | refine ld hO 5 rfl rfl ?_)
          rw [decide_eq_false (show ¬ SImg s by unfold SImg; omega)]; exact ⟨(by first | rfl | trivial), (by first | rfl | trivial)⟩
      · repeat (first | refine oi ?_ | refine ow ?_ | refine wy ?_ | refine wn ?_ | refine wt ?_ | refine wf' ?_ | refine cy ?_ | refine cn ?_ | refine ld hO 0 rfl rfl ?_ | refine ld hO 1 rfl rfl ?_ | refine ld hO 2 rfl rfl ?_ | refine ld hO 3 rfl rfl ?_ | refine ld hO 4 rfl rfl ?_ | refine ld hO 5 rfl rfl ?_)
        rw [decide_eq_false (show ¬ SImg s by unfold SImg; omega)]; exact ⟨(by first | rfl | trivial), (by first | rfl | trivial)⟩
    · repeat (first | refine oi ?_ | refine ow ?_ | refine wy ?_ | refine wn ?_ | refine wt ?_ | refine wf' ?_ | refine cy ?_ | refine cn ?_ | refine ld hO 0 rfl rfl ?_ | refine ld hO 1 rfl rfl ?_ | refine ld hO 2 rfl rfl ?_ | refine ld hO 3 rfl rfl ?_ | refine ld hO 4 rfl rfl ?_ | refine ld hO 5 rfl rfl ?_)
      rw [decide_eq_false (show ¬ SImg s by unfold SImg; omega)]; exact ⟨(by first | rfl | trivial), (by first | rfl | trivial)⟩
  rintro l' H ⟨rfl, rfl⟩
  refine join_with (fun l' H' => l' = [ptr p 0, .bool (decide (SNone s)), .bool (decide (SImg s)), .bool (decide (s.st = 0 ∨ s.st = 1 ∨ s.st = 4))] ∧ H' = H) ?_ ?_
  · try simp only [nth_zero, nth_succ]
    repeat (first | refine oi ?_ | refine ow ?_ | refine wy ?_ | refine wn ?_ | refine wt ?_ | refine wf' ?_ | refine cy ?_ | refine cn ?_ | refine ld hO 0 rfl rfl ?_ | refine ld hO 1 rfl rfl ?_ | refine ld hO 2 rfl rfl ?_ | refine ld hO 3 rfl rfl ?_ | refine ld hO 4 rfl rfl ?_ | refine ld hO 5 rfl rfl ?_)
    by_cases h : s.st = 0
    · repeat (first | refine oi ?_ | refine ow ?_ | refine wy ?_ | refine wn ?_ | refine wt ?_ | refine wf' ?_ | refine cy ?_ | refine cn ?_ | refine ld hO 0 rfl rfl ?_ | refine ld hO 1 rfl rfl ?_ | refine ld hO 2 rfl rfl ?_ | refine ld hO 3 rfl rfl ?_ | refine ld hO 4 rfl rfl ?_ | refine ld hO 5 rfl rfl ?_)
      rw [decide_eq_true (show s.st = 0 ∨ s.st = 1 ∨ s.st = 4 by omega)]; exact ⟨(by first | rfl | trivial), (by first | rfl | trivial)⟩
    · repeat (first | refine oi ?_ | refine ow ?_ | refine wy ?_ | refine wn ?_ | refine wt ?_ | refine wf' ?_ | refine cy ?_ | refine cn ?_ | refine ld hO 0 rfl rfl ?_ | refine ld hO 1 rfl rfl ?_ | refine ld hO 2 rfl rfl ?_ | refine ld hO 3 rfl rfl ?_ | refine ld hO 4 rfl rfl ?_ | refine ld hO 5 rfl rfl ?_)
      by_cases h1 : s.st = 1
      · repeat (first | refine oi ?_ | refine ow ?_ | refine wy ?_ | refine wn ?_ | refine wt ?_ | refine wf' ?_ | refine cy ?_ | refine cn ?_ | refine ld hO 0 rfl rfl ?_ | refine ld hO 1 rfl rfl ?_ | refine ld hO 2 rfl rfl ?_ | refine ld hO 3 rfl rfl ?_ | refine ld hO 4 rfl rfl ?_ | refine ld hO 5 rfl rfl ?_)
        rw [decide_eq_true (show s.st = 0 ∨ s.st = 1 ∨ s.st = 4 by omega)]; exact ⟨(by first | rfl | trivial), (by first | rfl | trivial)⟩
      · repeat (first | refine oi ?_ | refine ow ?_ | refine wy ?_ | refine wn ?_ | refine wt ?_ | refine wf' ?_ | refine cy ?_ | refine cn ?_ | refine ld hO 0 rfl rfl ?_ | refine ld hO 1 rfl rfl ?_ | refine ld hO 2 rfl rfl ?_ | refine ld hO 3 rfl rfl ?_ | refine ld hO 4 rfl rfl ?_ | refine ld hO 5 rfl rfl ?_)
        rw [show decide (s.st = 0 ∨ s.st = 1 ∨ s.st = 4) = decide (s.st = 4) from decide_eq_decide.2 (by omega)]; exact ⟨(by first | rfl | trivial), (by first | rfl | trivial)⟩
  rintro l' H' ⟨rfl, rfl⟩
  try simp only [nth_zero, nth_succ]
  refine wIf_dec (fun h => ?_) (fun h => ?_)
  · rw [show decide (SRight s) = decide (SNone s) from decide_eq_decide.2 (by unfold SRight; constructor; (rintro (⟨_, h⟩ | ⟨h, _⟩ | ⟨h, _⟩); exact h; omega; omega); exact fun h2 => .inl ⟨h, h2⟩)] at hk
    exact hk _ hO.left
  · have hn : SRight s ↔ (s.st = 2 ∧ (0 ≤ s.tr ∧ s.tr ≤ 7) ∧ SImg s) ∨ (s.st = 3 ∧ s.tr = 0 ∧ SImg s) := by
      unfold SRight; constructor
      · rintro (⟨h2, _⟩ | h2)
        · exact absurd h2 h
        · exact h2
      · exact .inr
    repeat (first | refine oi ?_ | refine ow ?_ | refine wy ?_ | refine wn ?_ | refine wt ?_ | refine wf' ?_ | refine cy ?_ | refine cn ?_ | refine ld hO 0 rfl rfl ?_ | refine ld hO 1 rfl rfl ?_ | refine ld hO 2 rfl rfl ?_ | refine ld hO 3 rfl rfl ?_ | refine ld hO 4 rfl rfl ?_ | refine ld hO 5 rfl rfl ?_)
    by_cases h2 : s.st = 2
    · repeat (first | refine oi ?_ | refine ow ?_ | refine wy ?_ | refine wn ?_ | refine wt ?_ | refine wf' ?_ | refine cy ?_ | refine cn ?_ | refine ld hO 0 rfl rfl ?_ | refine ld hO 1 rfl rfl ?_ | refine ld hO 2 rfl rfl ?_ | refine ld hO 3 rfl rfl ?_ | refine ld hO 4 rfl rfl ?_ | refine ld hO 5 rfl rfl ?_)
      have hn2 : SRight s ↔ ((0 ≤ s.tr ∧ s.tr ≤ 7) ∧ SImg s) := by
        rw [hn]; constructor
        · rintro (⟨_, h⟩ | ⟨h, _⟩)
          · exact h
          · omega
        · exact fun h => .inl ⟨h2, h⟩
      refine wIf_dec (fun h3 => ?_) (fun h3 => ?_)
      · repeat (first | refine oi ?_ | refine ow ?_ | refine wy ?_ | refine wn ?_ | refine wt ?_ | refine wf' ?_ | refine cy ?_ | refine cn ?_ | refine ld hO 0 rfl rfl ?_ | refine ld hO 1 rfl rfl ?_ | refine ld hO 2 rfl rfl ?_ | refine ld hO 3 rfl rfl ?_ | refine ld hO 4 rfl rfl ?_ | refine ld hO 5 rfl rfl ?_)
        by_cases h4 : 0 ≤ s.tr
        · repeat (first | refine oi ?_ | refine ow ?_ | refine wy ?_ | refine wn ?_ | refine wt ?_ | refine wf' ?_ | refine cy ?_ | refine cn ?_ | refine ld hO 0 rfl rfl ?_ | refine ld hO 1 rfl rfl ?_ | refine ld hO 2 rfl rfl ?_ | refine ld hO 3 rfl rfl ?_ | refine ld hO 4 rfl rfl ?_ | refine ld hO 5 rfl rfl ?_)
          rw [show decide (SRight s) = decide (s.tr ≤ 7) from decide_eq_decide.2 (by rw [hn2]; exact ⟨fun h => h.1.2, fun h => ⟨⟨h4, h⟩, h3⟩⟩)] at hk
          exact hk _ hO.left
        · repeat (first | refine oi ?_ | refine ow ?_ | refine wy ?_ | refine wn ?_ | refine wt ?_ | refine wf' ?_ | refine cy ?_ | refine cn ?_ | refine ld hO 0 rfl rfl ?_ | refine ld hO 1 rfl rfl ?_ | refine ld hO 2 rfl rfl ?_ | refine ld hO 3 rfl rfl ?_ | refine ld hO 4 rfl rfl ?_ | refine ld hO 5 rfl rfl ?_)
          rw [decide_eq_false (show ¬ SRight s by rw [hn2]; exact fun h => h4 h.1.1)] at hk
          exact hk _ hO.left
      · repeat (first | refine oi ?_ | refine ow ?_ | refine wy ?_ | refine wn ?_ | refine wt ?_ | refine wf' ?_ | refine cy ?_ | refine cn ?_ | refine ld hO 0 rfl rfl ?_ | refine ld hO 1 rfl rfl ?_ | refine ld hO 2 rfl rfl ?_ | refine ld hO 3 rfl rfl ?_ | refine ld hO 4 rfl rfl ?_ | refine ld hO 5 rfl rfl ?_)
        rw [decide_eq_false (show ¬ SRight s by rw [hn2]; exact fun h => h3 h.2)] at hk
        exact hk _ hO.left
    · repeat (first | refine oi ?_ | refine ow ?_ | refine wy ?_ | refine wn ?_ | refine wt ?_ | refine wf' ?_ | refine cy ?_ | refine cn ?_ | refine ld hO 0 rfl rfl ?_ | refine ld hO 1 rfl rfl ?_ | refine ld hO 2 rfl rfl ?_ | refine ld hO 3 rfl rfl ?_ | refine ld hO 4 rfl rfl ?_ | refine ld hO 5 rfl rfl ?_)
      by_cases h3 : s.st = 3
      · repeat (first | refine oi ?_ | refine ow ?_ | refine wy ?_ | refine wn ?_ | refine wt ?_ | refine wf' ?_ | refine cy ?_ | refine cn ?_ | refine ld hO 0 rfl rfl ?_ | refine ld hO 1 rfl rfl ?_ | refine ld hO 2 rfl rfl ?_ | refine ld hO 3 rfl rfl ?_ | refine ld hO 4 rfl rfl ?_ | refine ld hO 5 rfl rfl ?_)
        have hn2 : SRight s ↔ (s.tr = 0 ∧ SImg s) := by
          rw [hn]; constructor
          · rintro (⟨h, _⟩ | ⟨_, h⟩)
            · omega
            · exact h
          · exact fun h => .inr ⟨h3, h⟩
        refine wIf_dec (fun h4 => ?_) (fun h4 => ?_)
        · repeat (first | refine oi ?_ | refine ow ?_ | refine wy ?_ | refine wn ?_ | refine wt ?_ | refine wf' ?_ | refine cy ?_ | refine cn ?_ | refine ld hO 0 rfl rfl ?_ | refine ld hO 1 rfl rfl ?_ | refine ld hO 2 rfl rfl ?_ | refine ld hO 3 rfl rfl ?_ | refine ld hO 4 rfl rfl ?_ | refine ld hO 5 rfl rfl ?_)
          rw [show decide (SRight s) = decide (s.tr = 0) from decide_eq_decide.2 (by rw [hn2]; exact ⟨fun h => h.1, fun h => ⟨h, h4⟩⟩)] at hk
          exact hk _ hO.left
        · repeat (first | refine oi ?_ | refine ow ?_ | refine wy ?_ | refine wn ?_ | refine wt ?_ | refine wf' ?_ | refine cy ?_ | refine cn ?_ | refine ld hO 0 rfl rfl ?_ | refine ld hO 1 rfl rfl ?_ | refine ld hO 2 rfl rfl ?_ | refine ld hO 3 rfl rfl ?_ | refine ld hO 4 rfl rfl ?_ | refine ld hO 5 rfl rfl ?_)
          rw [decide_eq_false (show ¬ SRight s by rw [hn2]; exact fun h => h4 h.2)] at hk
          exact hk _ hO.left
      · repeat (first | refine oi ?_ | refine ow ?_ | refine wy ?_ | refine wn ?_ | refine wt ?_ | refine wf' ?_ | refine cy ?_ | refine cn ?_ | refine ld hO 0 rfl rfl ?_ | refine ld hO 1 rfl rfl ?_ | refine ld hO 2 rfl rfl ?_ | refine ld hO 3 rfl rfl ?_ | refine ld hO 4 rfl rfl ?_ | refine ld hO 5 rfl rfl ?_)
        rw [decide_eq_false (show ¬ SRight s by rw [hn]; rintro (⟨h, _⟩ | ⟨h, _⟩); exact h2 h; exact h3 h)] at hk
        exact hk _ hO.left
set_option maxHeartbeats 1000000 in
theorem ref12_Sound_spec (hO : St H Γ) (hx : RdB Γ x xs) (hb : ∀ x ∈ xs, 0 ≤ x ∧ x ≤ 255) (hl : xs.length ≤ 80000000) (hk : ∀ H', St H' Γ → K (.bool (decide (SSound xs s))) H') : wCall P n_ref12_Sound [x, agg (slC s)] H K := by
  apply ref12_Sound_ok; unfold ref12_Sound
  refine new_at hO ?_
  clear hO
  intro p5 H hO
  have i5 : ∀ {R : List (Nat × Blk)}, ((Γ ++ [(p5, (⟨slC s, true⟩ : Blk))]) ++ R)[Γ.length + 0]? = some (p5, ⟨slC s, true⟩) := at_l (at_r rfl)
  have i5' : (Γ ++ [(p5, (⟨slC s, true⟩ : Blk))])[Γ.length + 0]? = some (p5, ⟨slC s, true⟩) := at_r rfl
  refine join_with (fun l' H' => l' = [x, ptr p5 0] ∧ (SRight s ∧ SFull s ∧ s.sz ≤ xs.length) ∧ St H' (Γ ++ [(p5, (⟨slC s, true⟩ : Blk))])) ?_ ?_
  · refine loadAgg_at hO _ i5' (show _ = slC s from rfl) rfl (by omega) ?_
    refine ref10_Right_spec hO ?_
    clear hO
    intro H hO
    refine opP_i un_not ?_
    by_cases hr : SRight s
    · have e1 : (!decide (SRight s)) = false := by rw [decide_eq_true hr]; rfl
      rw [e1]
      refine wIf_f rfl ?_
      refine opP_i offPtr_ptr ?_
      refine load_at hO _ i5' (v := int s.st) rfl ?_
      refine opP_i bin_neq ?_
      refine wIf_dec (fun h2 => ?_) (fun h2 => ?_)
      · refine opP_i offPtr_ptr ?_
        refine load_at hO _ i5' (v := int s.st) rfl ?_
        refine opP_i bin_neq ?_
        refine opP_i (pick_yes h2) ?_
        refine opP_i pick_false ?_
        refine wIf_dec (fun h3 => ?_) (fun h3 => ?_)
        · refine opP_i (pick_yes h3) ?_
          refine wIf_t rfl ?_
          have hn : ¬ SSound xs s := fun h => by rcases h.2.1 with h | h; exact h2 h; exact h3 h
          have := hk H hO.left
          rw [decide_eq_false hn] at this; exact this
        · refine opW_i hx.lenSl ?_
          refine opP_i offPtr_ptr ?_
          refine load_at hO _ i5' (v := int s.sz) rfl ?_
          refine opP_i bin_lss ?_
          refine opP_i (pick_no h3) ?_
          refine wIf_dec (fun h => ?_) (fun h => ?_)
          · have hn : ¬ SSound xs s := fun h' => by have := h'.2.2.1; omega
            have := hk H hO.left
            rw [decide_eq_false hn] at this; exact this
          · exact ⟨rfl, ⟨hr, .inr (by omega), by omega⟩, hO⟩
      · refine opP_i (pick_no h2) ?_
        refine opP_i pick_false ?_
        refine opW_i hx.lenSl ?_
        refine opP_i offPtr_ptr ?_
        refine load_at hO _ i5' (v := int s.sz) rfl ?_
        refine opP_i bin_lss ?_
        refine opP_i pick_false ?_
        refine wIf_dec (fun h => ?_) (fun h => ?_)
        · have hn : ¬ SSound xs s := fun h' => by have := h'.2.2.1; omega
          have := hk H hO.left
          rw [decide_eq_false hn] at this; exact this
        · exact ⟨rfl, ⟨hr, .inl (by omega), by omega⟩, hO⟩
    · have e1 : (!decide (SRight s)) = true := by rw [decide_eq_false hr]; rfl
      rw [e1]
      refine wIf_t rfl ?_
      refine opP_i pick_true ?_
      refine opP_i pick_true ?_
      refine wIf_t rfl ?_
      have := hk H hO.left
      rw [decide_eq_false (fun h => hr h.1)] at this; exact this
  clear hO
  rintro l' H ⟨rfl, ⟨hr, hf, hsz⟩, hO⟩
  try simp only [nth_zero, nth_succ]
  obtain ⟨-, -, h1, h2⟩ := full_img hr hf
  obtain ⟨n, hn⟩ : ∃ n : Nat, s.sz = n := ⟨s.sz.toNat, by omega⟩
  refine opP_i offPtr_ptr ?_
  refine load_at hO _ i5' (v := int s.sz) rfl ?_
  obtain ⟨v2, e2, ih⟩ := slice_hi (n := n) hx (by omega)
  rw [hn]
  refine opP_i e2 ?_
  have hrd : RdB (Γ ++ [(p5, (⟨slC s, true⟩ : Blk))]) v2 (xs.take n) := (ih _ hx).app
  refine rSum_spec hO hrd (fun x hx => hb x (List.mem_of_mem_take hx)) (by rw [List.length_take]; omega) ?_
  intro H3 hO3
  refine opP_i offPtr_ptr ?_
  refine loadAgg_at hO3 _ i5' (show _ = dgC s.dg from rfl) rfl (by omega) ?_
  refine ⟨same_at hO _ i5' hO3 _ i5' (slC_simple s), ?_⟩
  rw [sha_dg]
  refine opP_i (eq24 _ _ _) ?_
  have := hk H3 hO3.left
  rw [show decide (SSound xs s) = eqCells (dgC (dgL (sha (xs.take n)))) (dgC s.dg) by
    rw [Bool.eq_iff_iff, decide_eq_true_iff]
    unfold SSound
    rw [hn, Int.toNat_natCast]
    constructor
    · exact fun h => h.2.2.2
    · exact fun h' => ⟨hr, hf, by omega, h'⟩] at this
  exact this
end J
