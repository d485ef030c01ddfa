/- texts of the proof, one behind the other -/
import Derived.Test.YtccblhllmplmaaaTC
set_option linter.unusedVariables false
set_option maxRecDepth 100000
namespace T
open Go Go.Ab
variable {H : Heap} {Γ : List (Nat × Blk)} {K : Value → Heap → Prop} {v w x : Value} {xs ys : List Int}
/-- bytes that were made -/
abbrev MadeB (Γ : List (Nat × Blk)) (K : Value → Heap → Prop) (xs : List Int) : Prop := ∀ (H' : Heap) (v' : Value) (cs' : List Value), St H' (Γ ++ outB v' cs') → OwnB v' xs cs' → K v' H'
theorem MadeB.none (h : MadeB Γ K []) (hO : St H Γ) : K nilSl H := h H nilSl [] (by show St H (Γ ++ []); rw [List.append_nil]; exact hO) OwnB.nil
theorem u46 : P.underlying 46 = some (.slice 5) := by kernel_rfl
theorem bs46_0 (H : Heap) : (buildSliceC P 46 0).f [] H = some (sl H.next 0 0 3, H.push []) := by kernel_rfl
theorem bs46_1 (k : IntKind) (n : Int) (H : Heap) : (buildSliceC P 46 1).f [(0, .int k n)] H = some (sl H.next 0 1 3, H.push [.int k n]) := by kernel_rfl
theorem bs46_2 (k k' : IntKind) (m n : Int) (H : Heap) : (buildSliceC P 46 2).f [(0, .int k m), (1, .int k' n)] H = some (sl H.next 0 2 3, H.push [.int k m, .int k' n]) := by kernel_rfl
theorem bs65_1 (a : Option Addr) (n c : Nat) (H : Heap) : (buildSliceC P 65 1).f [(0, .slice a n c)] H = some (sl H.next 0 1 3, H.push [.slice a n c]) := by kernel_rfl
theorem bs65_2 (a a' : Option Addr) (n n' c c' : Nat) (H : Heap) : (buildSliceC P 65 2).f [(0, .slice a n c), (1, .slice a' n' c')] H = some (sl H.next 0 2 3, H.push [.slice a n c, .slice a' n' c']) := by kernel_rfl
theorem Clone_spec (hO : St H Γ) (hv : RdB Γ v xs) (hl : xs.length ≤ 100000000) (hk : MadeB Γ K xs) : wCall P n_slices_Clone_byte_byte [v] H K := by
  apply slices_Clone_byte_byte_ok; unfold slices_Clone_byte_byte
  have hv' := hv
  rcases hv with ⟨rfl, rfl⟩ | ⟨p, o, c, rfl, _⟩
  · refine opP_i (eql_nil u46) ?_
    refine wIf_t rfl ?_
    exact hk.none hO
  · refine opP_i (eql_nil u46) ?_
    refine wIf_f rfl ?_
    refine newSl_at hO (bs46_0 _) ?_
    intro q H hO
    exact append_by (v := sl q 0 0 3) (cs := []) (xs := []) hO (.inr ⟨q, .inr ⟨rfl, rfl⟩, rfl, Nat.le_refl _, rfl⟩) hv' (by simp; omega) hk
theorem within_spec {n : Nat} (hn : n ≤ 8) (hk : K (int n) H) : wCall P n_code_within [int n] H K := by
  apply code_within_ok; unfold code_within
  repeat (first | refine opP_i (by first | exact qa | exact qs | exact nilCheck_ptr | exact offPtr_ptr | exact bin_eql | exact bin_neq | exact bin_lss | exact bin_gtr | exact bin_leq | exact bin_geq | exact un_not | exact pick_true | exact pick_false | exact qy | exact qn | exact qi | exact qj) ?_ | refine opW_i (by first | exact lenSl_sl | exact min_w | exact max_w) ?_ | refine wy ?_ | refine wn ?_ | refine wIf_t rfl ?_ | refine wIf_f rfl ?_ | refine cond_yes rfl ?_ | refine cond_no rfl ?_)
  rw [show max (0 : Int) (min (n : Int) 8) = n by omega]
  exact hk
theorem cap46 (H : Heap) : (builtinC P .cap [46]).f [nilSl] H = some (int 0, H) := by kernel_rfl
theorem app46_0 (x : Value) (H : Heap) : (builtinC P .append [46, 3]).f [nilSl, x] H = appendZeros 1 1 [.int .u8 0] nilSl x H := by kernel_rfl
theorem app46 {m : Nat} (h0 : 0 < m) (h1 : m ≤ 1000000000) (H : Heap) : (builtinC P .append [46, 3]).f [nilSl, int m] H = some (sl H.next 0 m 2, H.push (repl m [.int .u8 0])) := by
  rw [app46_0]
  unfold appendZeros
  simp only
  rw [leB_eq, decide_eq_true (show (0 : Int) ≤ m by omega)]
  simp only [Nat.beq_refl, Bool.and_self, Int.toNat_natCast]
  have hb : Nat.beq m 0 = false := by
    cases hb : Nat.beq m 0 with
    | false => rfl
    | true => have := Nat.eq_of_beq_eq_true hb; omega
  rw [hb, room_of (by omega) (by omega)]
  rfl
theorem Grow_spec {n : Nat} (hO : St H Γ) (hn : n ≤ 1000000000) (hk : MadeB Γ K []) : wCall P n_slices_Grow_byte_byte [nilSl, int n] H K := by
  apply slices_Grow_byte_byte_ok; unfold slices_Grow_byte_byte
  refine join_with (fun l' H' => l' = [nilSl, int n] ∧ St H' Γ) ?_ ?_
  · repeat (first | refine opP_i (by first | exact qa | exact qs | exact nilCheck_ptr | exact offPtr_ptr | exact bin_eql | exact bin_neq | exact bin_lss | exact bin_gtr | exact bin_leq | exact bin_geq | exact un_not | exact pick_true | exact pick_false | exact qy | exact qn | exact qi | exact qj) ?_ | refine opW_i (by first | exact lenSl_sl | exact min_w | exact max_w) ?_ | refine wy ?_ | refine wn ?_ | refine wIf_t rfl ?_ | refine wIf_f rfl ?_ | refine cond_yes rfl ?_ | refine cond_no rfl ?_)
    exact ⟨rfl, hO⟩
  clear hO
  rintro l' H ⟨rfl, hO⟩
  try simp only [nth_zero, nth_succ]
  refine opW_i (cap46 _) ?_
  repeat (first | refine opP_i (by first | exact qa | exact qs | exact nilCheck_ptr | exact offPtr_ptr | exact bin_eql | exact bin_neq | exact bin_lss | exact bin_gtr | exact bin_leq | exact bin_geq | exact un_not | exact pick_true | exact pick_false | exact qy | exact qn | exact qi | exact qj) ?_ | refine opW_i (by first | exact lenSl_sl | exact min_w | exact max_w) ?_ | refine wy ?_ | refine wn ?_ | refine wIf_t rfl ?_ | refine wIf_f rfl ?_ | refine cond_yes rfl ?_ | refine cond_no rfl ?_)
  refine wIf_dec (fun h => ?_) (fun h => ?_)
  · refine opW_i (cap46 _) ?_
    refine opP_i (show sliceSl 1 nilSl none (some (int 0)) none = some nilSl from rfl) ?_
    rw [show (n : Int) - (0 - ((0 : Nat) : Int)) = n by omega] at h ⊢
    refine newSl_at hO (app46 (by omega) hn _) ?_
    intro p H hO
    repeat (first | refine opP_i (by first | exact qa | exact qs | exact nilCheck_ptr | exact offPtr_ptr | exact bin_eql | exact bin_neq | exact bin_lss | exact bin_gtr | exact bin_leq | exact bin_geq | exact un_not | exact pick_true | exact pick_false | exact qy | exact qn | exact qi | exact qj) ?_ | refine opW_i (by first | exact lenSl_sl | exact min_w | exact max_w) ?_ | refine wy ?_ | refine wn ?_ | refine wIf_t rfl ?_ | refine wIf_f rfl ?_ | refine cond_yes rfl ?_ | refine cond_no rfl ?_)
    refine opP_i (show sliceSl 1 (sl p 0 n 2) none (some (int ((0 : Nat) : Int))) none = some (sl p 0 0 2) from rfl) ?_
    exact hk _ _ _ hO (.inr ⟨p, .inl rfl, rfl, Nat.zero_le _, by rw [repl1_eq]; simp [simpleB, simple0]⟩)
  · exact hk.none hO
/-- a slice of slices -/
def RdL (Γ : List (Nat × Blk)) (v : Value) (vs : List Value) : Prop := ∃ (p c j : Nat) (w : Bool), v = sl p 0 vs.length c ∧ Γ[j]? = some (p, (⟨vs, w⟩ : Blk))
theorem take_flat {xss : List (List Int)} {y : Nat} (h : y < xss.length) : (xss.take (y + 1)).flatten = (xss.take y).flatten ++ xss[y] := by
  rw [List.take_succ_eq_append_getElem h, List.flatten_append]; simp
theorem flat_le {xss : List (List Int)} (y : Nat) : (xss.take y).flatten.length ≤ xss.flatten.length := by
  conv => rhs; rw [← List.take_append_drop y xss]
  rw [List.flatten_append, List.length_append]; omega
theorem Concat_spec {vs : List Value} {xss : List (List Int)} (hO : St H Γ) (hv : RdL Γ v vs) (hlen : xss.length = vs.length) (hall : ∀ i (h : i < vs.length) (h' : i < xss.length), RdB Γ vs[i] xss[i]) (hl : xss.flatten.length ≤ 100000000) (hm : vs.length ≤ 1000000) (hk : MadeB Γ K xss.flatten) : wCall P n_slices_Concat_byte_byte [v] H K := by
  apply slices_Concat_byte_byte_ok; unfold slices_Concat_byte_byte
  obtain ⟨p, c, j, w, rfl, hj⟩ := hv
  repeat (first | refine opP_i (by first | exact qa | exact qs | exact nilCheck_ptr | exact offPtr_ptr | exact bin_eql | exact bin_neq | exact bin_lss | exact bin_gtr | exact bin_leq | exact bin_geq | exact un_not | exact pick_true | exact pick_false | exact qy | exact qn | exact qi | exact qj) ?_ | refine opW_i (by first | exact lenSl_sl | exact min_w | exact max_w) ?_ | refine wy ?_ | refine wn ?_ | refine wIf_t rfl ?_ | refine wIf_f rfl ?_ | refine cond_yes rfl ?_ | refine cond_no rfl ?_)
  refine slices_Concat_byte_byte_L0_ind (fun k l' H' => ∃ y : Nat, y ≤ vs.length ∧ k = vs.length - y ∧ l' = [sl p 0 vs.length c, nilSl, int ((xss.take y).flatten.length : Nat), sl p 0 vs.length c, int vs.length, int y] ∧ St H' Γ) _ _ ?_ vs.length _ _ ⟨0, by omega, by omega, rfl, hO⟩
  clear hO
  rintro k l' H' ⟨y, hy, rfl, rfl, hO⟩
  unfold slices_Concat_byte_byte_L0
  try simp only [nth_zero, nth_succ]
  have hle := flat_le (xss := xss) y
  repeat (first | refine opP_i (by first | exact qa | exact qs | exact nilCheck_ptr | exact offPtr_ptr | exact bin_eql | exact bin_neq | exact bin_lss | exact bin_gtr | exact bin_leq | exact bin_geq | exact un_not | exact pick_true | exact pick_false | exact qy | exact qn | exact qi | exact qj) ?_ | refine opW_i (by first | exact lenSl_sl | exact min_w | exact max_w) ?_ | refine wy ?_ | refine wn ?_ | refine wIf_t rfl ?_ | refine wIf_f rfl ?_ | refine cond_yes rfl ?_ | refine cond_no rfl ?_)
  refine wIf_dec (fun h => ?_) (fun h => ?_)
  · have hyl : y < vs.length := by omega
    have hyx : y < xss.length := by omega
    have hr := hall y hyl hyx
    have hs := take_flat hyx
    have hle2 := flat_le (xss := xss) (y + 1)
    rw [hs, List.length_append] at hle2
    repeat (first | refine opP_i (by first | exact qa | exact qs | exact nilCheck_ptr | exact offPtr_ptr | exact bin_eql | exact bin_neq | exact bin_lss | exact bin_gtr | exact bin_leq | exact bin_geq | exact un_not | exact pick_true | exact pick_false | exact qy | exact qn | exact qi | exact qj) ?_ | refine opW_i (by first | exact lenSl_sl | exact min_w | exact max_w) ?_ | refine wy ?_ | refine wn ?_ | refine wIf_t rfl ?_ | refine wIf_f rfl ?_ | refine cond_yes rfl ?_ | refine cond_no rfl ?_)
    refine load_at hO j hj (v := vs[y]) (by simp [hyl]) ?_
    refine opW_i hr.lenSl ?_
    repeat (first | refine opP_i (by first | exact qa | exact qs | exact nilCheck_ptr | exact offPtr_ptr | exact bin_eql | exact bin_neq | exact bin_lss | exact bin_gtr | exact bin_leq | exact bin_geq | exact un_not | exact pick_true | exact pick_false | exact qy | exact qn | exact qi | exact qj) ?_ | refine opW_i (by first | exact lenSl_sl | exact min_w | exact max_w) ?_ | refine wy ?_ | refine wn ?_ | refine wIf_t rfl ?_ | refine wIf_f rfl ?_ | refine cond_yes rfl ?_ | refine cond_no rfl ?_)
    refine ⟨_, by omega, y + 1, by omega, rfl, ?_, hO⟩
    rw [hs, List.length_append]; simp
  · have e : y = vs.length := by omega
    subst e
    rw [List.take_of_length_le (by omega)]
    repeat (first | refine opP_i (by first | exact qa | exact qs | exact nilCheck_ptr | exact offPtr_ptr | exact bin_eql | exact bin_neq | exact bin_lss | exact bin_gtr | exact bin_leq | exact bin_geq | exact un_not | exact pick_true | exact pick_false | exact qy | exact qn | exact qi | exact qj) ?_ | refine opW_i (by first | exact lenSl_sl | exact min_w | exact max_w) ?_ | refine wy ?_ | refine wn ?_ | refine wIf_t rfl ?_ | refine wIf_f rfl ?_ | refine cond_yes rfl ?_ | refine cond_no rfl ?_)
    refine Grow_spec hO (by omega) ?_
    intro H v' cs' hO' hv'
    repeat (first | refine opP_i (by first | exact qa | exact qs | exact nilCheck_ptr | exact offPtr_ptr | exact bin_eql | exact bin_neq | exact bin_lss | exact bin_gtr | exact bin_leq | exact bin_geq | exact un_not | exact pick_true | exact pick_false | exact qy | exact qn | exact qi | exact qj) ?_ | refine opW_i (by first | exact lenSl_sl | exact min_w | exact max_w) ?_ | refine wy ?_ | refine wn ?_ | refine wIf_t rfl ?_ | refine wIf_f rfl ?_ | refine cond_yes rfl ?_ | refine cond_no rfl ?_)
    refine slices_Concat_byte_byte_L1_ind (fun k l' H' => ∃ (y : Nat) (v' : Value) (cs' : List Value), y ≤ vs.length ∧ k = vs.length - y ∧ l' = [nilSl, v', sl p 0 vs.length c, int vs.length, int y] ∧ St H' (Γ ++ outB v' cs') ∧ OwnB v' (xss.take y).flatten cs') _ _ ?_ vs.length _ _ ⟨0, v', cs', by omega, by omega, rfl, hO', hv'⟩
    clear hO' hv' hO
    rintro k l' H' ⟨y, v', cs', hy, rfl, rfl, hO, hv⟩
    unfold slices_Concat_byte_byte_L1
    try simp only [nth_zero, nth_succ]
    repeat (first | refine opP_i (by first | exact qa | exact qs | exact nilCheck_ptr | exact offPtr_ptr | exact bin_eql | exact bin_neq | exact bin_lss | exact bin_gtr | exact bin_leq | exact bin_geq | exact un_not | exact pick_true | exact pick_false | exact qy | exact qn | exact qi | exact qj) ?_ | refine opW_i (by first | exact lenSl_sl | exact min_w | exact max_w) ?_ | refine wy ?_ | refine wn ?_ | refine wIf_t rfl ?_ | refine wIf_f rfl ?_ | refine cond_yes rfl ?_ | refine cond_no rfl ?_)
    refine wIf_dec (fun h => ?_) (fun h => ?_)
    · have hyl : y < vs.length := by omega
      have hyx : y < xss.length := by omega
      have hr := hall y hyl hyx
      have hs := take_flat hyx
      have hle2 := flat_le (xss := xss) (y + 1)
      rw [hs, List.length_append] at hle2
      repeat (first | refine opP_i (by first | exact qa | exact qs | exact nilCheck_ptr | exact offPtr_ptr | exact bin_eql | exact bin_neq | exact bin_lss | exact bin_gtr | exact bin_leq | exact bin_geq | exact un_not | exact pick_true | exact pick_false | exact qy | exact qn | exact qi | exact qj) ?_ | refine opW_i (by first | exact lenSl_sl | exact min_w | exact max_w) ?_ | refine wy ?_ | refine wn ?_ | refine wIf_t rfl ?_ | refine wIf_f rfl ?_ | refine cond_yes rfl ?_ | refine cond_no rfl ?_)
      refine load_at hO j (at_l hj) (v := vs[y]) (by simp [hyl]) ?_
      refine append_by hO hv hr (by omega) ?_
      intro H v'' cs'' hO hv
      repeat (first | refine opP_i (by first | exact qa | exact qs | exact nilCheck_ptr | exact offPtr_ptr | exact bin_eql | exact bin_neq | exact bin_lss | exact bin_gtr | exact bin_leq | exact bin_geq | exact un_not | exact pick_true | exact pick_false | exact qy | exact qn | exact qi | exact qj) ?_ | refine opW_i (by first | exact lenSl_sl | exact min_w | exact max_w) ?_ | refine wy ?_ | refine wn ?_ | refine wIf_t rfl ?_ | refine wIf_f rfl ?_ | refine cond_yes rfl ?_ | refine cond_no rfl ?_)
      refine ⟨_, by omega, y + 1, v'', cs'', by omega, rfl, rfl, hO, ?_⟩
      rw [hs]; exact hv
    · have e : y = vs.length := by omega
      subst e
      rw [List.take_of_length_le (by omega)] at hv
      repeat (first | refine opP_i (by first | exact qa | exact qs | exact nilCheck_ptr | exact offPtr_ptr | exact bin_eql | exact bin_neq | exact bin_lss | exact bin_gtr | exact bin_leq | exact bin_geq | exact un_not | exact pick_true | exact pick_false | exact qy | exact qn | exact qi | exact qj) ?_ | refine opW_i (by first | exact lenSl_sl | exact min_w | exact max_w) ?_ | refine wy ?_ | refine wn ?_ | refine wIf_t rfl ?_ | refine wIf_f rfl ?_ | refine cond_yes rfl ?_ | refine cond_no rfl ?_)
      exact hk _ _ _ hO hv
theorem Raw_spec (hO : St H Γ) (hv : RdB Γ v xs) (hw : RdL Γ w [x]) (hx : RdB Γ x ys) (hl : xs.length + ys.length ≤ 10000000) (hk : MadeB Γ K (xs ++ ys)) : wCall P n_code_Raw [v, w] H K := by
  apply code_Raw_ok; unfold code_Raw
  refine Concat_spec (xss := [ys]) hO hw rfl (fun i h h' => by
    have : i = 0 := by simp at h; omega
    subst this; exact hx) (by simp; omega) (by simp) ?_
  intro H v1 c1 hO h1
  have h1 : OwnB v1 ys c1 := by simpa using h1
  obtain ⟨a, n, c, e1⟩ := hv.shape
  obtain ⟨a', n', c', e2⟩ := h1.rd.shape
  refine newSl_at hO (show (buildSliceC P 65 2).f [(0, v), (1, v1)] H = some (sl H.next 0 2 3, H.push [v, v1]) by rw [e1, e2]; exact bs65_2 _ _ _ _ _ _ _) ?_
  intro q H hO
  refine Concat_spec (xss := [xs, ys]) (vs := [v, v1]) hO ⟨q, 3, (Γ ++ outB v1 c1).length, true, rfl, by simp⟩ rfl (fun i h h' => ?_) (by simp; omega) (by simp) ?_
  · match i, h with
    | 0, _ => exact hv.app.app
    | 1, _ => exact h1.rd.app'.app
  · intro H' v' cs' hO' hv'
    have hv' : OwnB v' (xs ++ ys) cs' := by simpa using hv'
    exact hk _ _ _ (St.mid (St.mid (L := [(q, ⟨[v, v1], true⟩)]) hO')) hv'
/-- a number's bytes, the lowest first -/
def leN (y n : Nat) : List Int := (List.range y).map fun i => ((n / 256 ^ i % 256 : Nat) : Int)
theorem leN_len (y n : Nat) : (leN y n).length = y := by simp [leN]
theorem leN_succ (y n : Nat) : leN (y + 1) n = leN y n ++ [((n / 256 ^ y % 256 : Nat) : Int)] := by simp [leN, List.range_succ]
theorem div_pow (n y : Nat) : n / 256 ^ y / 2 ^ 8 = n / 256 ^ (y + 1) := by show n / 256 ^ y / 256 = _; rw [Nat.div_div_eq_div_mul, ← Nat.pow_succ]
theorem Fixed_spec {n size : Nat} (hO : St H Γ) (hv : RdB Γ v xs) (hl : xs.length ≤ 10000000) (hn : n < 2 ^ 64) (hs : size ≤ 8) (hk : MadeB Γ K (xs ++ leN size n)) : wCall P n_code_Fixed [v, uint .u64 n, int size] H K := by
  apply code_Fixed_ok; unfold code_Fixed
  refine Clone_spec hO hv (by omega) ?_
  intro H v' cs' hO hv'
  refine within_spec hs ?_
  refine code_Fixed_L0_ind (fun k l' H' => ∃ (y : Nat) (v' : Value) (cs' : List Value), y ≤ size ∧ k = size - y ∧ l' = [uint .u64 (n / 256 ^ y), nilSl, v', int size, int y] ∧ St H' (Γ ++ outB v' cs') ∧ OwnB v' (xs ++ leN y n) cs') _ _ ?_ size _ _ ⟨0, v', cs', by omega, by omega, by simp, hO, by simpa [leN] using hv'⟩
  clear hO hv'
  rintro k l' H' ⟨y, v', cs', hy, rfl, rfl, hO, hv'⟩
  unfold code_Fixed_L0
  try simp only [nth_zero, nth_succ]
  repeat (first | refine opP_i (by first | exact qa | exact qs | exact nilCheck_ptr | exact offPtr_ptr | exact bin_eql | exact bin_neq | exact bin_lss | exact bin_gtr | exact bin_leq | exact bin_geq | exact un_not | exact pick_true | exact pick_false | exact qy | exact qn | exact qi | exact qj) ?_ | refine opW_i (by first | exact lenSl_sl | exact min_w | exact max_w) ?_ | refine wy ?_ | refine wn ?_ | refine wIf_t rfl ?_ | refine wIf_f rfl ?_ | refine cond_yes rfl ?_ | refine cond_no rfl ?_)
  refine wIf_dec (fun h => ?_) (fun h => ?_)
  · have hyl : y < size := by omega
    refine opW_i (cvU rfl) ?_
    refine newSl_at hO (bs46_1 _ _ _) ?_
    intro q H hO
    refine append_new (ys := [((n / 256 ^ y % 256 : Nat) : Int)]) hO hv' (by have := leN_len y n; simp [this]; omega) rfl (.inr rfl) ?_
    intro H v'' cs'' hO hv''
    refine opP_i (bin_shrU (n := 8) rfl (by decide)) ?_
    repeat (first | refine opP_i (by first | exact qa | exact qs | exact nilCheck_ptr | exact offPtr_ptr | exact bin_eql | exact bin_neq | exact bin_lss | exact bin_gtr | exact bin_leq | exact bin_geq | exact un_not | exact pick_true | exact pick_false | exact qy | exact qn | exact qi | exact qj) ?_ | refine opW_i (by first | exact lenSl_sl | exact min_w | exact max_w) ?_ | refine wy ?_ | refine wn ?_ | refine wIf_t rfl ?_ | refine wIf_f rfl ?_ | refine cond_yes rfl ?_ | refine cond_no rfl ?_)
    refine ⟨_, by omega, y + 1, v'', cs'', by omega, rfl, ?_, hO, ?_⟩
    · rw [div_pow]; rfl
    · rw [leN_succ, ← List.append_assoc]; exact hv''
  · have e : y = size := by omega
    subst e
    repeat (first | refine opP_i (by first | exact qa | exact qs | exact nilCheck_ptr | exact offPtr_ptr | exact bin_eql | exact bin_neq | exact bin_lss | exact bin_gtr | exact bin_leq | exact bin_geq | exact un_not | exact pick_true | exact pick_false | exact qy | exact qn | exact qi | exact qj) ?_ | refine opW_i (by first | exact lenSl_sl | exact min_w | exact max_w) ?_ | refine wy ?_ | refine wn ?_ | refine wIf_t rfl ?_ | refine wIf_f rfl ?_ | refine cond_yes rfl ?_ | refine cond_no rfl ?_)
    exact hk _ _ _ hO hv'
theorem ref05_size_spec {n : Nat} (hn : n ≤ 8) (hk : K (int n) H) : wCall P n_ref05_size [int n] H K := by
  apply ref05_size_ok; unfold ref05_size
  repeat (first | refine opP_i (by first | exact qa | exact qs | exact nilCheck_ptr | exact offPtr_ptr | exact bin_eql | exact bin_neq | exact bin_lss | exact bin_gtr | exact bin_leq | exact bin_geq | exact un_not | exact pick_true | exact pick_false | exact qy | exact qn | exact qi | exact qj) ?_ | refine opW_i (by first | exact lenSl_sl | exact min_w | exact max_w) ?_ | refine wy ?_ | refine wn ?_ | refine wIf_t rfl ?_ | refine wIf_f rfl ?_ | refine cond_yes rfl ?_ | refine cond_no rfl ?_)
  exact hk
theorem ref05_Fixed_spec {n size : Nat} (hO : St H Γ) (hn : n < 2 ^ 64) (hs : size ≤ 8) (hk : MadeB Γ K (leN size n)) : wCall P n_ref05_Fixed [uint .u64 n, int size] H K := by
  apply ref05_Fixed_ok; unfold ref05_Fixed
  refine newSl_at hO (bs46_0 _) ?_
  intro q H hO
  refine ref05_Fixed_L0_ind (fun k l' H' => ∃ (y : Nat) (v' : Value) (cs' : List Value), y ≤ size ∧ k = size - y ∧ l' = [uint .u64 (n / 256 ^ y), int size, nilSl, v', int y] ∧ St H' (Γ ++ outB v' cs') ∧ OwnB v' (leN y n) cs') _ _ ?_ size _ _ ⟨0, sl q 0 0 3, [], by omega, by omega, by simp, hO, .inr ⟨q, .inr ⟨rfl, rfl⟩, rfl, Nat.zero_le _, rfl⟩⟩
  clear hO
  rintro k l' H' ⟨y, v', cs', hy, rfl, rfl, hO, hv'⟩
  unfold ref05_Fixed_L0
  try simp only [nth_zero, nth_succ]
  refine ref05_size_spec hs ?_
  repeat (first | refine opP_i (by first | exact qa | exact qs | exact nilCheck_ptr | exact offPtr_ptr | exact bin_eql | exact bin_neq | exact bin_lss | exact bin_gtr | exact bin_leq | exact bin_geq | exact un_not | exact pick_true | exact pick_false | exact qy | exact qn | exact qi | exact qj) ?_ | refine opW_i (by first | exact lenSl_sl | exact min_w | exact max_w) ?_ | refine wy ?_ | refine wn ?_ | refine wIf_t rfl ?_ | refine wIf_f rfl ?_ | refine cond_yes rfl ?_ | refine cond_no rfl ?_)
  refine wIf_dec (fun h => ?_) (fun h => ?_)
  · have hyl : y < size := by omega
    have hb : n / 256 ^ y < 2 ^ 64 := Nat.lt_of_le_of_lt (Nat.div_le_self _ _) hn
    refine opP_i (bin_remU (b := 256) (by decide)) ?_
    refine opW_i (cvU rfl) ?_
    refine newSl_at hO (bs46_1 _ _ _) ?_
    intro q H hO
    rw [show n / 256 ^ y % 256 % szU .u8 = n / 256 ^ y % 256 from Nat.mod_mod _ _] at *
    refine append_new (ys := [((n / 256 ^ y % 256 : Nat) : Int)]) hO hv' (by have := leN_len y n; simp [this]; omega) rfl (.inr rfl) ?_
    intro H v'' cs'' hO hv''
    refine opP_i (bin_quoU (b := 256) rfl (by decide) hb) ?_
    repeat (first | refine opP_i (by first | exact qa | exact qs | exact nilCheck_ptr | exact offPtr_ptr | exact bin_eql | exact bin_neq | exact bin_lss | exact bin_gtr | exact bin_leq | exact bin_geq | exact un_not | exact pick_true | exact pick_false | exact qy | exact qn | exact qi | exact qj) ?_ | refine opW_i (by first | exact lenSl_sl | exact min_w | exact max_w) ?_ | refine wy ?_ | refine wn ?_ | refine wIf_t rfl ?_ | refine wIf_f rfl ?_ | refine cond_yes rfl ?_ | refine cond_no rfl ?_)
    refine ⟨_, by omega, y + 1, v'', cs'', by omega, rfl, ?_, hO, ?_⟩
    · rw [Nat.div_div_eq_div_mul, ← Nat.pow_succ]; rfl
    · rw [leN_succ]; exact hv''
  · have e : y = size := by omega
    subst e
    repeat (first | refine opP_i (by first | exact qa | exact qs | exact nilCheck_ptr | exact offPtr_ptr | exact bin_eql | exact bin_neq | exact bin_lss | exact bin_gtr | exact bin_leq | exact bin_geq | exact un_not | exact pick_true | exact pick_false | exact qy | exact qn | exact qi | exact qj) ?_ | refine opW_i (by first | exact lenSl_sl | exact min_w | exact max_w) ?_ | refine wy ?_ | refine wn ?_ | refine wIf_t rfl ?_ | refine wIf_f rfl ?_ | refine cond_yes rfl ?_ | refine cond_no rfl ?_)
    exact hk _ _ _ hO hv'
end T
set_option linter.unusedVariables false
set_option maxRecDepth 100000
namespace T
open Go Go.Ab
variable {H : Heap} {Γ : List (Nat × Blk)} {K : Value → Heap → Prop} {v w x : Value} {xs ys : List Int}
section
variable {s : Sl} {t : Tb}
def dgL (g : Nat → Int) : List Int := (List.range 32).map g
theorem dg_by (g : Nat → Int) : by8 (dgL g) = dgC g := rfl
def sBy (s : Sl) : List Int := leN 1 s.st.toNat ++ leN 1 s.tr.toNat ++ leN 8 s.ver.toNat ++ leN 4 s.sz.toNat ++ dgL s.dg
def sBy' (s : Sl) : List Int := if SRight s then sBy s else []
theorem SRight.nn {s : Sl} (h : SRight s) : (0 ≤ s.st ∧ s.st ≤ 4) ∧ (0 ≤ s.tr ∧ s.tr ≤ 7) ∧ (0 ≤ s.ver ∧ s.ver ≤ 281474976710656) ∧ (0 ≤ s.sz ∧ s.sz ≤ 65536) := by
  rcases h with ⟨h, h2⟩ | ⟨h, h2, h3⟩ | ⟨h, h2, h3⟩
  · obtain ⟨a, b, c, _⟩ := h2; omega
  · obtain ⟨a, b, c, d⟩ := h3; omega
  · obtain ⟨a, b, c, d⟩ := h3; omega
theorem sBy_len : (sBy s).length = 46 := by simp [sBy, leN_len, dgL]
theorem sBy'_len : (sBy' s).length ≤ 46 := by unfold sBy'; split; rw [sBy_len]; omega; simp
theorem dg_rd {p : Nat} {B : List (Nat × Blk)} : RdB (Γ ++ ((p, ⟨slC s, true⟩) :: B)) (sl p 4 32 3) (dgL s.dg) :=
  .inr ⟨p, 4, 3, rfl, .inr rfl, .inr ⟨Γ.length + 0, ⟨slC s, true⟩, at_r rfl, rfl⟩⟩
set_option maxHeartbeats 2000000 in
theorem slot_Bytes_spec (hO : St H Γ) (hk : MadeB Γ K (sBy' s)) : wCall P n_slot_Bytes [agg (slC s)] H K := by
  apply slot_Bytes_ok; unfold slot_Bytes
  refine new_at hO ?_
  intro p H hO
  refine loadAll_at hO (Γ.length + 0) (at_r rfl) rfl (by omega) ?_
  refine slot_Right_spec hO ?_
  intro H hO
  by_cases hr : SRight s
  · rw [decide_eq_true hr]
    unfold sBy' at hk
    rw [if_pos hr] at hk
    obtain ⟨n1, n2, n3, n4⟩ := hr.nn
    repeat (first | refine opP_i (by first | exact qa | exact qs | exact nilCheck_ptr | exact offPtr_ptr | exact bin_eql | exact bin_neq | exact bin_lss | exact bin_gtr | exact bin_leq | exact bin_geq | exact un_not | exact pick_true | exact pick_false | exact qy | exact qn | exact qi | exact qj) ?_ | refine opW_i (by first | exact lenSl_sl | exact min_w | exact max_w) ?_ | refine wy ?_ | refine wn ?_ | refine wIf_t rfl ?_ | refine wIf_f rfl ?_ | refine cond_yes rfl ?_ | refine cond_no rfl ?_ | refine ld hO 0 rfl rfl ?_ | refine ld hO 1 rfl rfl ?_ | refine ld hO 2 rfl rfl ?_ | refine ld hO 3 rfl rfl ?_ | refine ld hO 4 rfl rfl ?_ | refine ld hO 5 rfl rfl ?_)
    refine opW_i (cvIU (by omega) (by omega)) ?_
    refine Fixed_spec (size := 1) (xs := []) hO .nil (by simp) (by omega) (by omega) ?_
    intro H2 v1 c1 hO2 h1
    replace hO2 := hO2.tail1
    repeat (first | refine opP_i (by first | exact qa | exact qs | exact nilCheck_ptr | exact offPtr_ptr | exact bin_eql | exact bin_neq | exact bin_lss | exact bin_gtr | exact bin_leq | exact bin_geq | exact un_not | exact pick_true | exact pick_false | exact qy | exact qn | exact qi | exact qj) ?_ | refine opW_i (by first | exact lenSl_sl | exact min_w | exact max_w) ?_ | refine wy ?_ | refine wn ?_ | refine wIf_t rfl ?_ | refine wIf_f rfl ?_ | refine cond_yes rfl ?_ | refine cond_no rfl ?_)
    refine load_at hO2 (Γ.length + 0) (at_r rfl) rfl ?_
    refine ⟨same_at hO (Γ.length + 0) (at_r rfl) hO2 (Γ.length + 0) (at_r rfl) rfl, ?_⟩
    clear hO
    refine opW_i (cvIU (by omega) (by omega)) ?_
    refine Fixed_spec (size := 1) hO2 h1.rd.tl (by simp [leN_len]) (by omega) (by omega) ?_
    clear hO2
    intro H v2 c2 hO h2
    replace hO := hO.tail1
    repeat (first | refine opP_i (by first | exact qa | exact qs | exact nilCheck_ptr | exact offPtr_ptr | exact bin_eql | exact bin_neq | exact bin_lss | exact bin_gtr | exact bin_leq | exact bin_geq | exact un_not | exact pick_true | exact pick_false | exact qy | exact qn | exact qi | exact qj) ?_ | refine opW_i (by first | exact lenSl_sl | exact min_w | exact max_w) ?_ | refine wy ?_ | refine wn ?_ | refine wIf_t rfl ?_ | refine wIf_f rfl ?_ | refine cond_yes rfl ?_ | refine cond_no rfl ?_ | refine ld hO 0 rfl rfl ?_ | refine ld hO 1 rfl rfl ?_ | refine ld hO 2 rfl rfl ?_ | refine ld hO 3 rfl rfl ?_ | refine ld hO 4 rfl rfl ?_ | refine ld hO 5 rfl rfl ?_)
    rw [uint_of n3.1]
    refine Fixed_spec (size := 8) hO h2.rd.tl (by simp [leN_len]) (by omega) (by omega) ?_
    intro H2 v3 c3 hO2 h3
    replace hO2 := hO2.tail1
    repeat (first | refine opP_i (by first | exact qa | exact qs | exact nilCheck_ptr | exact offPtr_ptr | exact bin_eql | exact bin_neq | exact bin_lss | exact bin_gtr | exact bin_leq | exact bin_geq | exact un_not | exact pick_true | exact pick_false | exact qy | exact qn | exact qi | exact qj) ?_ | refine opW_i (by first | exact lenSl_sl | exact min_w | exact max_w) ?_ | refine wy ?_ | refine wn ?_ | refine wIf_t rfl ?_ | refine wIf_f rfl ?_ | refine cond_yes rfl ?_ | refine cond_no rfl ?_)
    refine load_at hO2 (Γ.length + 0) (at_r rfl) rfl ?_
    refine ⟨same_at hO (Γ.length + 0) (at_r rfl) hO2 (Γ.length + 0) (at_r rfl) rfl, ?_⟩
    clear hO
    refine opW_i (cvIU (by omega) (by omega)) ?_
    refine Fixed_spec (size := 4) hO2 h3.rd.tl (by simp [leN_len]) (by omega) (by omega) ?_
    clear hO2
    intro H v4 c4 hO h4
    replace hO := hO.tail1
    repeat (first | refine opP_i (by first | exact qa | exact qs | exact nilCheck_ptr | exact offPtr_ptr | exact bin_eql | exact bin_neq | exact bin_lss | exact bin_gtr | exact bin_leq | exact bin_geq | exact un_not | exact pick_true | exact pick_false | exact qy | exact qn | exact qi | exact qj) ?_ | refine opW_i (by first | exact lenSl_sl | exact min_w | exact max_w) ?_ | refine wy ?_ | refine wn ?_ | refine wIf_t rfl ?_ | refine wIf_f rfl ?_ | refine cond_yes rfl ?_ | refine cond_no rfl ?_)
    refine opP_i (slice_arr hO (Γ.length + 0) (at_r rfl) (by omega) (show 4 + 32 ≤ (slC s).length from Nat.le_refl _)) ?_
    refine newSl_at hO (bs65_1 _ _ _ _) ?_
    intro q H hO
    refine Raw_spec hO h4.rd.tl.app ⟨q, 3, (Γ ++ ((p, ⟨slC s, true⟩) :: outB v4 c4)).length, true, rfl, by simp⟩ dg_rd.app (by simp [leN_len, dgL]) ?_
    intro H v5 c5 hO h5
    refine hk _ v5 c5 ?_ h5
    exact hO.sub (List.Sublist.append ((List.sublist_append_left _ _).trans (List.sublist_append_left _ _)) (List.Sublist.refl _))
  · rw [decide_eq_false hr]
    unfold sBy' at hk
    rw [if_neg hr] at hk
    repeat (first | refine opP_i (by first | exact qa | exact qs | exact nilCheck_ptr | exact offPtr_ptr | exact bin_eql | exact bin_neq | exact bin_lss | exact bin_gtr | exact bin_leq | exact bin_geq | exact un_not | exact pick_true | exact pick_false | exact qy | exact qn | exact qi | exact qj) ?_ | refine opW_i (by first | exact lenSl_sl | exact min_w | exact max_w) ?_ | refine wy ?_ | refine wn ?_ | refine wIf_t rfl ?_ | refine wIf_f rfl ?_ | refine cond_yes rfl ?_ | refine cond_no rfl ?_ | refine ld hO 0 rfl rfl ?_ | refine ld hO 1 rfl rfl ?_ | refine ld hO 2 rfl rfl ?_ | refine ld hO 3 rfl rfl ?_ | refine ld hO 4 rfl rfl ?_ | refine ld hO 5 rfl rfl ?_)
    exact hk.none hO.left
set_option maxHeartbeats 2000000 in
theorem ref10_Bytes_spec (hO : St H Γ) (hk : MadeB Γ K (sBy' s)) : wCall P n_ref10_Bytes [agg (slC s)] H K := by
  apply ref10_Bytes_ok; unfold ref10_Bytes
  refine new_at hO ?_
  intro p H hO
  refine newSl_at hO (bs46_0 _) ?_
  intro r H hO
  refine loadAll_at hO (Γ.length + 0) (at_l (at_r rfl)) rfl (by omega) ?_
  refine ref10_Right_spec hO ?_
  intro H hO
  have h0 : OwnB (sl r 0 0 3) [] [] := .inr ⟨r, .inr ⟨rfl, rfl⟩, rfl, Nat.zero_le _, rfl⟩
  have hO : St H ((Γ ++ [(p, ⟨slC s, true⟩)]) ++ outB (sl r 0 0 3) []) := hO
  by_cases hr : SRight s
  · rw [decide_eq_true hr]
    unfold sBy' at hk
    rw [if_pos hr] at hk
    obtain ⟨n1, n2, n3, n4⟩ := hr.nn
    repeat (first | refine opP_i (by first | exact qa | exact qs | exact nilCheck_ptr | exact offPtr_ptr | exact bin_eql | exact bin_neq | exact bin_lss | exact bin_gtr | exact bin_leq | exact bin_geq | exact un_not | exact pick_true | exact pick_false | exact qy | exact qn | exact qi | exact qj) ?_ | refine opW_i (by first | exact lenSl_sl | exact min_w | exact max_w) ?_ | refine wy ?_ | refine wn ?_ | refine wIf_t rfl ?_ | refine wIf_f rfl ?_ | refine cond_yes rfl ?_ | refine cond_no rfl ?_)
    refine load_at hO (Γ.length + 0) (at_l (at_r rfl)) rfl ?_
    refine opW_i (cvI8 (by omega) (by omega)) ?_
    repeat (first | refine opP_i (by first | exact qa | exact qs | exact nilCheck_ptr | exact offPtr_ptr | exact bin_eql | exact bin_neq | exact bin_lss | exact bin_gtr | exact bin_leq | exact bin_geq | exact un_not | exact pick_true | exact pick_false | exact qy | exact qn | exact qi | exact qj) ?_ | refine opW_i (by first | exact lenSl_sl | exact min_w | exact max_w) ?_ | refine wy ?_ | refine wn ?_ | refine wIf_t rfl ?_ | refine wIf_f rfl ?_ | refine cond_yes rfl ?_ | refine cond_no rfl ?_)
    refine load_at hO (Γ.length + 0) (at_l (at_r rfl)) rfl ?_
    refine opW_i (cvI8 (by omega) (by omega)) ?_
    refine newSl_at hO (bs46_2 _ _ _ _ _) ?_
    intro q H hO
    have e1 : leN 1 s.st.toNat = [((s.st.toNat : Nat) : Int)] := by simp [leN]; omega
    have e2 : leN 1 s.tr.toNat = [((s.tr.toNat : Nat) : Int)] := by simp [leN]; omega
    refine append_new (ys := [((s.st.toNat : Nat) : Int), ((s.tr.toNat : Nat) : Int)]) hO h0 (by simp) rfl (.inr rfl) ?_
    intro H v1 c1 hO h1
    repeat (first | refine opP_i (by first | exact qa | exact qs | exact nilCheck_ptr | exact offPtr_ptr | exact bin_eql | exact bin_neq | exact bin_lss | exact bin_gtr | exact bin_leq | exact bin_geq | exact un_not | exact pick_true | exact pick_false | exact qy | exact qn | exact qi | exact qj) ?_ | refine opW_i (by first | exact lenSl_sl | exact min_w | exact max_w) ?_ | refine wy ?_ | refine wn ?_ | refine wIf_t rfl ?_ | refine wIf_f rfl ?_ | refine cond_yes rfl ?_ | refine cond_no rfl ?_)
    refine load_at hO (Γ.length + 0) (at_l (at_r rfl)) rfl ?_
    rw [uint_of n3.1]
    refine ref05_Fixed_spec (size := 8) hO (by omega) (by omega) ?_
    intro H v2 c2 hO h2
    refine append_own2 hO h1 h2 (by simp [leN_len]) ?_
    intro H v3 c3 hO h3
    repeat (first | refine opP_i (by first | exact qa | exact qs | exact nilCheck_ptr | exact offPtr_ptr | exact bin_eql | exact bin_neq | exact bin_lss | exact bin_gtr | exact bin_leq | exact bin_geq | exact un_not | exact pick_true | exact pick_false | exact qy | exact qn | exact qi | exact qj) ?_ | refine opW_i (by first | exact lenSl_sl | exact min_w | exact max_w) ?_ | refine wy ?_ | refine wn ?_ | refine wIf_t rfl ?_ | refine wIf_f rfl ?_ | refine cond_yes rfl ?_ | refine cond_no rfl ?_)
    refine load_at hO (Γ.length + 0) (at_l (at_r rfl)) rfl ?_
    refine opW_i (cvIU (by omega) (by omega)) ?_
    refine ref05_Fixed_spec (size := 4) hO (by omega) (by omega) ?_
    intro H v4 c4 hO h4
    refine append_own2 hO h3 h4 (by simp [leN_len]) ?_
    intro H v5 c5 hO h5
    repeat (first | refine opP_i (by first | exact qa | exact qs | exact nilCheck_ptr | exact offPtr_ptr | exact bin_eql | exact bin_neq | exact bin_lss | exact bin_gtr | exact bin_leq | exact bin_geq | exact un_not | exact pick_true | exact pick_false | exact qy | exact qn | exact qi | exact qj) ?_ | refine opW_i (by first | exact lenSl_sl | exact min_w | exact max_w) ?_ | refine wy ?_ | refine wn ?_ | refine wIf_t rfl ?_ | refine wIf_f rfl ?_ | refine cond_yes rfl ?_ | refine cond_no rfl ?_)
    refine opP_i (slice_arr hO (Γ.length + 0) (at_l (at_r rfl)) (by omega) (show 4 + 32 ≤ (slC s).length from Nat.le_refl _)) ?_
    refine append_by hO h5 (dg_rd (B := [])) (by simp [leN_len, dgL]) ?_
    intro H v6 c6 hO h6
    refine hk _ v6 c6 (St.mid hO) ?_
    have : sBy s = [] ++ [((s.st.toNat : Nat) : Int), ((s.tr.toNat : Nat) : Int)] ++ leN 8 s.ver.toNat ++ leN 4 s.sz.toNat ++ dgL s.dg := by
      unfold sBy; rw [e1, e2]; rfl
    rw [this]; exact h6
  · rw [decide_eq_false hr]
    unfold sBy' at hk
    rw [if_neg hr] at hk
    repeat (first | refine opP_i (by first | exact qa | exact qs | exact nilCheck_ptr | exact offPtr_ptr | exact bin_eql | exact bin_neq | exact bin_lss | exact bin_gtr | exact bin_leq | exact bin_geq | exact un_not | exact pick_true | exact pick_false | exact qy | exact qn | exact qi | exact qj) ?_ | refine opW_i (by first | exact lenSl_sl | exact min_w | exact max_w) ?_ | refine wy ?_ | refine wn ?_ | refine wIf_t rfl ?_ | refine wIf_f rfl ?_ | refine cond_yes rfl ?_ | refine cond_no rfl ?_)
    exact hk _ _ _ (St.mid hO) h0
def tBy (t : Tb) : List Int := if TRight t then sBy t.a ++ sBy t.b ++ leN 1 t.act.toNat ++ leN 1 (t.boo + 1).toNat ++ leN 8 t.flo.toNat else []
end
end T
set_option linter.unusedVariables false
set_option maxRecDepth 100000
namespace T
open Go Go.Ab
variable {H : Heap} {Γ : List (Nat × Blk)} {K : Value → Heap → Prop} {v w x : Value} {xs ys : List Int}
section
variable {s : Sl} {t : Tb}
theorem sBy'_right (h : SRight s) : sBy' s = sBy s := if_pos h
theorem leN_one {n : Nat} (h : n < 256) : leN 1 n = [((n : Nat) : Int)] := by simp [leN]; omega
theorem Raw_two {y : Nat × Blk} {A B : List (Nat × Blk)} {cs : List Value} (hO : St H ((Γ ++ (y :: A)) ++ outB x cs)) (hv : RdB A v xs) (hx : OwnB x ys cs) (hl : xs.length + ys.length ≤ 10000000)
    (hk : ∀ H' v' cs', St H' (Γ ++ (y :: outB v' cs')) → OwnB v' (xs ++ ys) cs' → K v' H') : opW ((buildSliceC P 65 1).f [(0, x)] H) fun t H' => wCall P n_code_Raw [v, t] H' K := by
  obtain ⟨a, n, c, e⟩ := hx.rd.shape
  refine newSl_at hO (show (buildSliceC P 65 1).f [(0, x)] H = some (sl H.next 0 1 3, H.push [x]) by rw [e]; exact bs65_1 _ _ _ _) ?_
  intro q H hO
  refine Raw_spec hO hv.tl.app.app ⟨q, 3, ((Γ ++ (y :: A)) ++ outB x cs).length, true, rfl, by simp⟩ hx.rd.app'.app hl ?_
  intro H v5 c5 hO h5
  refine hk _ v5 c5 ?_ h5
  exact St.tail1 (A := A) (hO.sub (List.Sublist.append ((List.sublist_append_left _ _).trans (List.sublist_append_left _ _)) (List.Sublist.refl _)))
set_option maxHeartbeats 2000000 in
theorem table_Bytes_spec (hO : St H Γ) (hf : 0 ≤ t.flo) (hk : MadeB Γ K (tBy t)) : wCall P n_table_Bytes [agg (tbC t)] H K := by
  apply table_Bytes_ok; unfold table_Bytes
  refine new_at hO ?_
  intro p H hO
  refine loadAll_at hO (Γ.length + 0) (at_r rfl) rfl (by omega) ?_
  refine table_Right_spec hO ?_
  intro H hO
  by_cases hr : TRight t
  · rw [decide_eq_true hr]
    unfold tBy at hk
    rw [if_pos hr] at hk
    have n1 := hr.1.nn
    have n2 := hr.2.1.nn
    have n3 := hr.2.2.1.bd
    have n4 : -1 ≤ t.boo ∧ t.boo ≤ 1 := by rcases hr.2.2.2.1 with h | h; omega; have := h.bd; omega
    have n5 := hr.2.2.2.2
    repeat (first | refine opP_i (by first | exact qa | exact qs | exact nilCheck_ptr | exact offPtr_ptr | exact bin_eql | exact bin_neq | exact bin_lss | exact bin_gtr | exact bin_leq | exact bin_geq | exact un_not | exact pick_true | exact pick_false | exact qy | exact qn | exact qi | exact qj) ?_ | refine opW_i (by first | exact lenSl_sl | exact min_w | exact max_w) ?_ | refine wy ?_ | refine wn ?_ | refine wIf_t rfl ?_ | refine wIf_f rfl ?_ | refine cond_yes rfl ?_ | refine cond_no rfl ?_ | refine ld hO 0 rfl rfl ?_ | refine ld hO 1 rfl rfl ?_ | refine ld hO 2 rfl rfl ?_ | refine ld hO 3 rfl rfl ?_ | refine ld hO 4 rfl rfl ?_ | refine ld hO 5 rfl rfl ?_)
    refine loadAgg_at hO (Γ.length + 0) (at_r rfl) (show _ = slC t.a from rfl) rfl (by omega) ?_
    refine slot_Bytes_spec hO ?_
    rw [sBy'_right hr.1]
    intro H2 v1 c1 hO2 h1
    replace hO2 := hO2.tail1
    repeat (first | refine opP_i (by first | exact qa | exact qs | exact nilCheck_ptr | exact offPtr_ptr | exact bin_eql | exact bin_neq | exact bin_lss | exact bin_gtr | exact bin_leq | exact bin_geq | exact un_not | exact pick_true | exact pick_false | exact qy | exact qn | exact qi | exact qj) ?_ | refine opW_i (by first | exact lenSl_sl | exact min_w | exact max_w) ?_ | refine wy ?_ | refine wn ?_ | refine wIf_t rfl ?_ | refine wIf_f rfl ?_ | refine cond_yes rfl ?_ | refine cond_no rfl ?_ | refine ld hO 0 rfl rfl ?_ | refine ld hO 1 rfl rfl ?_ | refine ld hO 2 rfl rfl ?_ | refine ld hO 3 rfl rfl ?_ | refine ld hO 4 rfl rfl ?_ | refine ld hO 5 rfl rfl ?_)
    refine loadAgg_at hO2 (Γ.length + 0) (at_r rfl) (show _ = slC t.b from rfl) rfl (by omega) ?_
    refine ⟨same_at hO (Γ.length + 0) (at_r rfl) hO2 (Γ.length + 0) (at_r rfl) rfl, ?_⟩
    refine slot_Bytes_spec hO2 ?_
    rw [sBy'_right hr.2.1]
    clear hO hO2
    intro H v2 c2 hO h2
    refine Raw_two (B := []) hO h1.rd h2 (by simp [sBy_len]) ?_
    clear hO
    intro H v3 c3 hO h3
    repeat (first | refine opP_i (by first | exact qa | exact qs | exact nilCheck_ptr | exact offPtr_ptr | exact bin_eql | exact bin_neq | exact bin_lss | exact bin_gtr | exact bin_leq | exact bin_geq | exact un_not | exact pick_true | exact pick_false | exact qy | exact qn | exact qi | exact qj) ?_ | refine opW_i (by first | exact lenSl_sl | exact min_w | exact max_w) ?_ | refine wy ?_ | refine wn ?_ | refine wIf_t rfl ?_ | refine wIf_f rfl ?_ | refine cond_yes rfl ?_ | refine cond_no rfl ?_)
    refine load_at hO (Γ.length + 0) (at_r rfl) rfl ?_
    refine opW_i (cvIU (by omega) (by omega)) ?_
    refine Fixed_spec (size := 1) hO h3.rd.tl (by simp [sBy_len]) (by omega) (by omega) ?_
    intro H2 v4 c4 hO2 h4
    replace hO2 := hO2.tail1
    repeat (first | refine opP_i (by first | exact qa | exact qs | exact nilCheck_ptr | exact offPtr_ptr | exact bin_eql | exact bin_neq | exact bin_lss | exact bin_gtr | exact bin_leq | exact bin_geq | exact un_not | exact pick_true | exact pick_false | exact qy | exact qn | exact qi | exact qj) ?_ | refine opW_i (by first | exact lenSl_sl | exact min_w | exact max_w) ?_ | refine wy ?_ | refine wn ?_ | refine wIf_t rfl ?_ | refine wIf_f rfl ?_ | refine cond_yes rfl ?_ | refine cond_no rfl ?_)
    refine load_at hO2 (Γ.length + 0) (at_r rfl) rfl ?_
    refine ⟨same_at hO (Γ.length + 0) (at_r rfl) hO2 (Γ.length + 0) (at_r rfl) rfl, ?_⟩
    clear hO
    repeat (first | refine opP_i (by first | exact qa | exact qs | exact nilCheck_ptr | exact offPtr_ptr | exact bin_eql | exact bin_neq | exact bin_lss | exact bin_gtr | exact bin_leq | exact bin_geq | exact un_not | exact pick_true | exact pick_false | exact qy | exact qn | exact qi | exact qj) ?_ | refine opW_i (by first | exact lenSl_sl | exact min_w | exact max_w) ?_ | refine wy ?_ | refine wn ?_ | refine wIf_t rfl ?_ | refine wIf_f rfl ?_ | refine cond_yes rfl ?_ | refine cond_no rfl ?_)
    rw [show t.boo - -1 = t.boo + 1 by omega]
    refine opW_i (cvIU (by omega) (by omega)) ?_
    refine Fixed_spec (size := 1) hO2 h4.rd.tl (by simp [sBy_len, leN_len]) (by omega) (by omega) ?_
    clear hO2
    intro H v5 c5 hO h5
    replace hO := hO.tail1
    repeat (first | refine opP_i (by first | exact qa | exact qs | exact nilCheck_ptr | exact offPtr_ptr | exact bin_eql | exact bin_neq | exact bin_lss | exact bin_gtr | exact bin_leq | exact bin_geq | exact un_not | exact pick_true | exact pick_false | exact qy | exact qn | exact qi | exact qj) ?_ | refine opW_i (by first | exact lenSl_sl | exact min_w | exact max_w) ?_ | refine wy ?_ | refine wn ?_ | refine wIf_t rfl ?_ | refine wIf_f rfl ?_ | refine cond_yes rfl ?_ | refine cond_no rfl ?_)
    refine load_at hO (Γ.length + 0) (at_r rfl) rfl ?_
    rw [uint_of hf]
    refine Fixed_spec (size := 8) hO h5.rd.tl (by simp [sBy_len, leN_len]) (by omega) (by omega) ?_
    intro H v6 c6 hO h6
    refine hk _ v6 c6 ?_ h6
    exact hO.sub (List.Sublist.append (List.sublist_append_left _ _) (List.Sublist.refl _))
  · rw [decide_eq_false hr]
    unfold tBy at hk
    rw [if_neg hr] at hk
    repeat (first | refine opP_i (by first | exact qa | exact qs | exact nilCheck_ptr | exact offPtr_ptr | exact bin_eql | exact bin_neq | exact bin_lss | exact bin_gtr | exact bin_leq | exact bin_geq | exact un_not | exact pick_true | exact pick_false | exact qy | exact qn | exact qi | exact qj) ?_ | refine opW_i (by first | exact lenSl_sl | exact min_w | exact max_w) ?_ | refine wy ?_ | refine wn ?_ | refine wIf_t rfl ?_ | refine wIf_f rfl ?_ | refine cond_yes rfl ?_ | refine cond_no rfl ?_ | refine ld hO 0 rfl rfl ?_ | refine ld hO 1 rfl rfl ?_ | refine ld hO 2 rfl rfl ?_ | refine ld hO 3 rfl rfl ?_ | refine ld hO 4 rfl rfl ?_ | refine ld hO 5 rfl rfl ?_)
    exact hk.none hO.left
set_option maxHeartbeats 2000000 in
theorem ref11_Bytes_spec (hO : St H Γ) (hf : 0 ≤ t.flo) (hk : MadeB Γ K (tBy t)) : wCall P n_ref11_Bytes [agg (tbC t)] H K := by
  apply ref11_Bytes_ok; unfold ref11_Bytes
  refine new_at hO ?_
  intro p H hO
  refine newSl_at hO (bs46_0 _) ?_
  intro r H hO
  refine loadAll_at hO (Γ.length + 0) (at_l (at_r rfl)) rfl (by omega) ?_
  refine ref11_Right_spec hO ?_
  intro H hO
  have h0 : OwnB (sl r 0 0 3) [] [] := .inr ⟨r, .inr ⟨rfl, rfl⟩, rfl, Nat.zero_le _, rfl⟩
  have hO : St H ((Γ ++ [(p, ⟨tbC t, true⟩)]) ++ outB (sl r 0 0 3) []) := hO
  by_cases hr : TRight t
  · rw [decide_eq_true hr]
    unfold tBy at hk
    rw [if_pos hr] at hk
    have n3 := hr.2.2.1.bd
    have n4 : -1 ≤ t.boo ∧ t.boo ≤ 1 := by rcases hr.2.2.2.1 with h | h; omega; have := h.bd; omega
    have n5 := hr.2.2.2.2
    repeat (first | refine opP_i (by first | exact qa | exact qs | exact nilCheck_ptr | exact offPtr_ptr | exact bin_eql | exact bin_neq | exact bin_lss | exact bin_gtr | exact bin_leq | exact bin_geq | exact un_not | exact pick_true | exact pick_false | exact qy | exact qn | exact qi | exact qj) ?_ | refine opW_i (by first | exact lenSl_sl | exact min_w | exact max_w) ?_ | refine wy ?_ | refine wn ?_ | refine wIf_t rfl ?_ | refine wIf_f rfl ?_ | refine cond_yes rfl ?_ | refine cond_no rfl ?_)
    refine loadAgg_at hO (Γ.length + 0) (at_l (at_r rfl)) (show _ = slC t.a from rfl) rfl (by omega) ?_
    refine ref10_Bytes_spec hO ?_
    rw [sBy'_right hr.1]
    intro H v1 c1 hO h1
    refine append_own2 hO h0 h1 (by simp [sBy_len]) ?_
    intro H v2 c2 hO h2
    repeat (first | refine opP_i (by first | exact qa | exact qs | exact nilCheck_ptr | exact offPtr_ptr | exact bin_eql | exact bin_neq | exact bin_lss | exact bin_gtr | exact bin_leq | exact bin_geq | exact un_not | exact pick_true | exact pick_false | exact qy | exact qn | exact qi | exact qj) ?_ | refine opW_i (by first | exact lenSl_sl | exact min_w | exact max_w) ?_ | refine wy ?_ | refine wn ?_ | refine wIf_t rfl ?_ | refine wIf_f rfl ?_ | refine cond_yes rfl ?_ | refine cond_no rfl ?_)
    refine loadAgg_at hO (Γ.length + 0) (at_l (at_r rfl)) (show _ = slC t.b from rfl) rfl (by omega) ?_
    refine ref10_Bytes_spec hO ?_
    rw [sBy'_right hr.2.1]
    intro H v3 c3 hO h3
    refine append_own2 hO h2 h3 (by simp [sBy_len]) ?_
    intro H v4 c4 hO h4
    repeat (first | refine opP_i (by first | exact qa | exact qs | exact nilCheck_ptr | exact offPtr_ptr | exact bin_eql | exact bin_neq | exact bin_lss | exact bin_gtr | exact bin_leq | exact bin_geq | exact un_not | exact pick_true | exact pick_false | exact qy | exact qn | exact qi | exact qj) ?_ | refine opW_i (by first | exact lenSl_sl | exact min_w | exact max_w) ?_ | refine wy ?_ | refine wn ?_ | refine wIf_t rfl ?_ | refine wIf_f rfl ?_ | refine cond_yes rfl ?_ | refine cond_no rfl ?_)
    refine load_at hO (Γ.length + 0) (at_l (at_r rfl)) rfl ?_
    refine opW_i (cvI8 (by omega) (by omega)) ?_
    repeat (first | refine opP_i (by first | exact qa | exact qs | exact nilCheck_ptr | exact offPtr_ptr | exact bin_eql | exact bin_neq | exact bin_lss | exact bin_gtr | exact bin_leq | exact bin_geq | exact un_not | exact pick_true | exact pick_false | exact qy | exact qn | exact qi | exact qj) ?_ | refine opW_i (by first | exact lenSl_sl | exact min_w | exact max_w) ?_ | refine wy ?_ | refine wn ?_ | refine wIf_t rfl ?_ | refine wIf_f rfl ?_ | refine cond_yes rfl ?_ | refine cond_no rfl ?_)
    refine load_at hO (Γ.length + 0) (at_l (at_r rfl)) rfl ?_
    repeat (first | refine opP_i (by first | exact qa | exact qs | exact nilCheck_ptr | exact offPtr_ptr | exact bin_eql | exact bin_neq | exact bin_lss | exact bin_gtr | exact bin_leq | exact bin_geq | exact un_not | exact pick_true | exact pick_false | exact qy | exact qn | exact qi | exact qj) ?_ | refine opW_i (by first | exact lenSl_sl | exact min_w | exact max_w) ?_ | refine wy ?_ | refine wn ?_ | refine wIf_t rfl ?_ | refine wIf_f rfl ?_ | refine cond_yes rfl ?_ | refine cond_no rfl ?_)
    refine opW_i (cvI8 (by omega) (by omega)) ?_
    refine newSl_at hO (bs46_2 _ _ _ _ _) ?_
    intro q H hO
    refine append_new (ys := [((t.act.toNat : Nat) : Int), (((t.boo + 1).toNat : Nat) : Int)]) hO h4 (by simp [sBy_len]) rfl (.inr rfl) ?_
    intro H v5 c5 hO h5
    repeat (first | refine opP_i (by first | exact qa | exact qs | exact nilCheck_ptr | exact offPtr_ptr | exact bin_eql | exact bin_neq | exact bin_lss | exact bin_gtr | exact bin_leq | exact bin_geq | exact un_not | exact pick_true | exact pick_false | exact qy | exact qn | exact qi | exact qj) ?_ | refine opW_i (by first | exact lenSl_sl | exact min_w | exact max_w) ?_ | refine wy ?_ | refine wn ?_ | refine wIf_t rfl ?_ | refine wIf_f rfl ?_ | refine cond_yes rfl ?_ | refine cond_no rfl ?_)
    refine load_at hO (Γ.length + 0) (at_l (at_r rfl)) rfl ?_
    rw [uint_of hf]
    refine ref05_Fixed_spec (size := 8) hO (by omega) (by omega) ?_
    intro H v6 c6 hO h6
    refine append_own2 hO h5 h6 (by simp [leN_len, sBy_len]) ?_
    intro H v7 c7 hO h7
    refine hk _ v7 c7 (St.mid hO) ?_
    rw [leN_one (show t.act.toNat < 256 by omega), leN_one (show (t.boo + 1).toNat < 256 by omega)]
    simpa using h7
  · rw [decide_eq_false hr]
    unfold tBy at hk
    rw [if_neg hr] at hk
    repeat (first | refine opP_i (by first | exact qa | exact qs | exact nilCheck_ptr | exact offPtr_ptr | exact bin_eql | exact bin_neq | exact bin_lss | exact bin_gtr | exact bin_leq | exact bin_geq | exact un_not | exact pick_true | exact pick_false | exact qy | exact qn | exact qi | exact qj) ?_ | refine opW_i (by first | exact lenSl_sl | exact min_w | exact max_w) ?_ | refine wy ?_ | refine wn ?_ | refine wIf_t rfl ?_ | refine wIf_f rfl ?_ | refine cond_yes rfl ?_ | refine cond_no rfl ?_)
    exact hk _ _ _ (St.mid hO) h0
end
end T
set_option linter.unusedVariables false
set_option maxRecDepth 100000
namespace T
open Go Go.Ab
variable {H : Heap} {Γ : List (Nat × Blk)} {K : Value → Heap → Prop} {v w x : Value} {xs ys : List Int}
section
variable {s : Sl} {t : Tb} {c : Ch} {l : List Ch}
theorem cellEq_comm (x y : Value) : cellEq x y = cellEq y x := by
  cases x <;> cases y <;> first | rfl | skip
  · show (_ == _) = (_ == _); exact Bool.beq_comm
  · show decide _ = decide _; exact decide_eq_decide.2 eq_comm
  · show (_ == _) = (_ == _); exact Bool.eq_iff_iff.2 (by rw [beq_iff_eq, beq_iff_eq]; exact eq_comm)
theorem eqCells_comm : ∀ xs ys : List Value, eqCells xs ys = eqCells ys xs
  | [], [] => rfl
  | [], _ :: _ => rfl
  | _ :: _, [] => rfl
  | x :: xs, y :: ys => by show (cellEq x y && eqCells xs ys) = (cellEq y x && eqCells ys xs); rw [cellEq_comm, eqCells_comm xs ys]
theorem eq_sz (s : Sl) (b : Bool) : (binC P .eql 34 b).f (agg (slC s)) (agg (slC (slz 0))) = some (.bool (decide (SZ s))) := by
  rw [eq26, eqCells_comm]
  by_cases hz : SZ s
  · rw [decide_eq_true hz, show eqCells (slC (slz 0)) (slC s) = true from hz]
  · rw [decide_eq_false hz, show eqCells (slC (slz 0)) (slC s) = false from Bool.eq_false_iff.2 hz]
set_option maxHeartbeats 2000000 in
theorem ref11_One_spec (hO : St H Γ) (hk : ∀ H', St H' Γ → K (.bool (decide (CRight c))) H') : wCall P n_ref11_One [agg (chC c)] H K := by
  apply ref11_One_ok; unfold ref11_One
  refine new_at hO ?_
  intro p H hO
  have no : ¬ CRight c → ∀ H', St H' (Γ ++ [(p, ⟨chC c, true⟩)]) → K (.bool false) H' := fun h H' hO' => by
    have := hk _ hO'.left
    rw [decide_eq_false h] at this; exact this
  have yes : ∀ (q : Prop) [Decidable q], (q ↔ CRight c) → ∀ H', St H' (Γ ++ [(p, ⟨chC c, true⟩)]) → K (.bool (decide q)) H' := fun q _ h H' hO' => by
    have := hk _ hO'.left
    rw [decide_eq_decide.2 h.symm] at this; exact this
  repeat (first | refine opP_i (by first | exact qa | exact qs | exact nilCheck_ptr | exact offPtr_ptr | exact bin_eql | exact bin_neq | exact bin_lss | exact bin_gtr | exact bin_leq | exact bin_geq | exact un_not | exact pick_true | exact pick_false | exact qy | exact qn | exact qi | exact qj) ?_ | refine opW_i (by first | exact lenSl_sl | exact min_w | exact max_w) ?_ | refine wy ?_ | refine wn ?_ | refine wIf_t rfl ?_ | refine wIf_f rfl ?_ | refine cond_yes rfl ?_ | refine cond_no rfl ?_ | refine ld hO 0 rfl rfl ?_ | refine ld hO 1 rfl rfl ?_ | refine ld hO 2 rfl rfl ?_ | refine ld hO 3 rfl rfl ?_ | refine ld hO 4 rfl rfl ?_ | refine ld hO 5 rfl rfl ?_)
  refine wIf_dec (fun h1 => ?_) (fun h1 => ?_)
  · repeat (first | refine opP_i (by first | exact qa | exact qs | exact nilCheck_ptr | exact offPtr_ptr | exact bin_eql | exact bin_neq | exact bin_lss | exact bin_gtr | exact bin_leq | exact bin_geq | exact un_not | exact pick_true | exact pick_false | exact qy | exact qn | exact qi | exact qj) ?_ | refine opW_i (by first | exact lenSl_sl | exact min_w | exact max_w) ?_ | refine wy ?_ | refine wn ?_ | refine wIf_t rfl ?_ | refine wIf_f rfl ?_ | refine cond_yes rfl ?_ | refine cond_no rfl ?_ | refine ld hO 0 rfl rfl ?_ | refine ld hO 1 rfl rfl ?_ | refine ld hO 2 rfl rfl ?_ | refine ld hO 3 rfl rfl ?_ | refine ld hO 4 rfl rfl ?_ | refine ld hO 5 rfl rfl ?_)
    refine wIf_dec (fun h2 => ?_) (fun h2 => ?_)
    · repeat (first | refine opP_i (by first | exact qa | exact qs | exact nilCheck_ptr | exact offPtr_ptr | exact bin_eql | exact bin_neq | exact bin_lss | exact bin_gtr | exact bin_leq | exact bin_geq | exact un_not | exact pick_true | exact pick_false | exact qy | exact qn | exact qi | exact qj) ?_ | refine opW_i (by first | exact lenSl_sl | exact min_w | exact max_w) ?_ | refine wy ?_ | refine wn ?_ | refine wIf_t rfl ?_ | refine wIf_f rfl ?_ | refine cond_yes rfl ?_ | refine cond_no rfl ?_ | refine ld hO 0 rfl rfl ?_ | refine ld hO 1 rfl rfl ?_ | refine ld hO 2 rfl rfl ?_ | refine ld hO 3 rfl rfl ?_ | refine ld hO 4 rfl rfl ?_ | refine ld hO 5 rfl rfl ?_)
      refine wIf_dec (fun h3 => ?_) (fun h3 => ?_)
      · repeat (first | refine opP_i (by first | exact qa | exact qs | exact nilCheck_ptr | exact offPtr_ptr | exact bin_eql | exact bin_neq | exact bin_lss | exact bin_gtr | exact bin_leq | exact bin_geq | exact un_not | exact pick_true | exact pick_false | exact qy | exact qn | exact qi | exact qj) ?_ | refine opW_i (by first | exact lenSl_sl | exact min_w | exact max_w) ?_ | refine wy ?_ | refine wn ?_ | refine wIf_t rfl ?_ | refine wIf_f rfl ?_ | refine cond_yes rfl ?_ | refine cond_no rfl ?_ | refine ld hO 0 rfl rfl ?_ | refine ld hO 1 rfl rfl ?_ | refine ld hO 2 rfl rfl ?_ | refine ld hO 3 rfl rfl ?_ | refine ld hO 4 rfl rfl ?_ | refine ld hO 5 rfl rfl ?_)
        refine wIf_dec (fun h4 => ?_) (fun h4 => ?_)
        · repeat (first | refine opP_i (by first | exact qa | exact qs | exact nilCheck_ptr | exact offPtr_ptr | exact bin_eql | exact bin_neq | exact bin_lss | exact bin_gtr | exact bin_leq | exact bin_geq | exact un_not | exact pick_true | exact pick_false | exact qy | exact qn | exact qi | exact qj) ?_ | refine opW_i (by first | exact lenSl_sl | exact min_w | exact max_w) ?_ | refine wy ?_ | refine wn ?_ | refine wIf_t rfl ?_ | refine wIf_f rfl ?_ | refine cond_yes rfl ?_ | refine cond_no rfl ?_ | refine ld hO 0 rfl rfl ?_ | refine ld hO 1 rfl rfl ?_ | refine ld hO 2 rfl rfl ?_ | refine ld hO 3 rfl rfl ?_ | refine ld hO 4 rfl rfl ?_ | refine ld hO 5 rfl rfl ?_)
          refine wIf_dec (fun h5 => ?_) (fun h5 => ?_)
          · repeat (first | refine opP_i (by first | exact qa | exact qs | exact nilCheck_ptr | exact offPtr_ptr | exact bin_eql | exact bin_neq | exact bin_lss | exact bin_gtr | exact bin_leq | exact bin_geq | exact un_not | exact pick_true | exact pick_false | exact qy | exact qn | exact qi | exact qj) ?_ | refine opW_i (by first | exact lenSl_sl | exact min_w | exact max_w) ?_ | refine wy ?_ | refine wn ?_ | refine wIf_t rfl ?_ | refine wIf_f rfl ?_ | refine cond_yes rfl ?_ | refine cond_no rfl ?_ | refine ld hO 0 rfl rfl ?_ | refine ld hO 1 rfl rfl ?_ | refine ld hO 2 rfl rfl ?_ | refine ld hO 3 rfl rfl ?_ | refine ld hO 4 rfl rfl ?_ | refine ld hO 5 rfl rfl ?_)
            refine loadAgg_at hO (Γ.length + 0) (at_r rfl) (show _ = slC c.to from rfl) rfl (by omega) ?_
            refine ref10_Right_spec hO ?_
            intro H hO
            repeat (first | refine opP_i (by first | exact qa | exact qs | exact nilCheck_ptr | exact offPtr_ptr | exact bin_eql | exact bin_neq | exact bin_lss | exact bin_gtr | exact bin_leq | exact bin_geq | exact un_not | exact pick_true | exact pick_false | exact qy | exact qn | exact qi | exact qj) ?_ | refine opW_i (by first | exact lenSl_sl | exact min_w | exact max_w) ?_ | refine wy ?_ | refine wn ?_ | refine wIf_t rfl ?_ | refine wIf_f rfl ?_ | refine cond_yes rfl ?_ | refine cond_no rfl ?_ | refine ld hO 0 rfl rfl ?_ | refine ld hO 1 rfl rfl ?_ | refine ld hO 2 rfl rfl ?_ | refine ld hO 3 rfl rfl ?_ | refine ld hO 4 rfl rfl ?_ | refine ld hO 5 rfl rfl ?_)
            refine yes _ ?_ _ hO
            unfold CRight Ix
            exact ⟨fun h => .inl ⟨h1, ⟨by omega, h⟩, h2, h3⟩, fun h => by rcases h with h | h | h | h; exact h.2.1.2; all_goals omega⟩
          · repeat (first | refine opP_i (by first | exact qa | exact qs | exact nilCheck_ptr | exact offPtr_ptr | exact bin_eql | exact bin_neq | exact bin_lss | exact bin_gtr | exact bin_leq | exact bin_geq | exact un_not | exact pick_true | exact pick_false | exact qy | exact qn | exact qi | exact qj) ?_ | refine opW_i (by first | exact lenSl_sl | exact min_w | exact max_w) ?_ | refine wy ?_ | refine wn ?_ | refine wIf_t rfl ?_ | refine wIf_f rfl ?_ | refine cond_yes rfl ?_ | refine cond_no rfl ?_ | refine ld hO 0 rfl rfl ?_ | refine ld hO 1 rfl rfl ?_ | refine ld hO 2 rfl rfl ?_ | refine ld hO 3 rfl rfl ?_ | refine ld hO 4 rfl rfl ?_ | refine ld hO 5 rfl rfl ?_)
            exact no (by unfold CRight Ix; omega) _ hO
        · repeat (first | refine opP_i (by first | exact qa | exact qs | exact nilCheck_ptr | exact offPtr_ptr | exact bin_eql | exact bin_neq | exact bin_lss | exact bin_gtr | exact bin_leq | exact bin_geq | exact un_not | exact pick_true | exact pick_false | exact qy | exact qn | exact qi | exact qj) ?_ | refine opW_i (by first | exact lenSl_sl | exact min_w | exact max_w) ?_ | refine wy ?_ | refine wn ?_ | refine wIf_t rfl ?_ | refine wIf_f rfl ?_ | refine cond_yes rfl ?_ | refine cond_no rfl ?_ | refine ld hO 0 rfl rfl ?_ | refine ld hO 1 rfl rfl ?_ | refine ld hO 2 rfl rfl ?_ | refine ld hO 3 rfl rfl ?_ | refine ld hO 4 rfl rfl ?_ | refine ld hO 5 rfl rfl ?_)
          exact no (by unfold CRight Ix; omega) _ hO
      · repeat (first | refine opP_i (by first | exact qa | exact qs | exact nilCheck_ptr | exact offPtr_ptr | exact bin_eql | exact bin_neq | exact bin_lss | exact bin_gtr | exact bin_leq | exact bin_geq | exact un_not | exact pick_true | exact pick_false | exact qy | exact qn | exact qi | exact qj) ?_ | refine opW_i (by first | exact lenSl_sl | exact min_w | exact max_w) ?_ | refine wy ?_ | refine wn ?_ | refine wIf_t rfl ?_ | refine wIf_f rfl ?_ | refine cond_yes rfl ?_ | refine cond_no rfl ?_ | refine ld hO 0 rfl rfl ?_ | refine ld hO 1 rfl rfl ?_ | refine ld hO 2 rfl rfl ?_ | refine ld hO 3 rfl rfl ?_ | refine ld hO 4 rfl rfl ?_ | refine ld hO 5 rfl rfl ?_)
        exact no (by unfold CRight Ix; omega) _ hO
    · repeat (first | refine opP_i (by first | exact qa | exact qs | exact nilCheck_ptr | exact offPtr_ptr | exact bin_eql | exact bin_neq | exact bin_lss | exact bin_gtr | exact bin_leq | exact bin_geq | exact un_not | exact pick_true | exact pick_false | exact qy | exact qn | exact qi | exact qj) ?_ | refine opW_i (by first | exact lenSl_sl | exact min_w | exact max_w) ?_ | refine wy ?_ | refine wn ?_ | refine wIf_t rfl ?_ | refine wIf_f rfl ?_ | refine cond_yes rfl ?_ | refine cond_no rfl ?_ | refine ld hO 0 rfl rfl ?_ | refine ld hO 1 rfl rfl ?_ | refine ld hO 2 rfl rfl ?_ | refine ld hO 3 rfl rfl ?_ | refine ld hO 4 rfl rfl ?_ | refine ld hO 5 rfl rfl ?_)
      exact no (by unfold CRight Ix; omega) _ hO
  repeat (first | refine opP_i (by first | exact qa | exact qs | exact nilCheck_ptr | exact offPtr_ptr | exact bin_eql | exact bin_neq | exact bin_lss | exact bin_gtr | exact bin_leq | exact bin_geq | exact un_not | exact pick_true | exact pick_false | exact qy | exact qn | exact qi | exact qj) ?_ | refine opW_i (by first | exact lenSl_sl | exact min_w | exact max_w) ?_ | refine wy ?_ | refine wn ?_ | refine wIf_t rfl ?_ | refine wIf_f rfl ?_ | refine cond_yes rfl ?_ | refine cond_no rfl ?_ | refine ld hO 0 rfl rfl ?_ | refine ld hO 1 rfl rfl ?_ | refine ld hO 2 rfl rfl ?_ | refine ld hO 3 rfl rfl ?_ | refine ld hO 4 rfl rfl ?_ | refine ld hO 5 rfl rfl ?_)
  refine wIf_dec (fun h1' => ?_) (fun h1' => ?_)
  · repeat (first | refine opP_i (by first | exact qa | exact qs | exact nilCheck_ptr | exact offPtr_ptr | exact bin_eql | exact bin_neq | exact bin_lss | exact bin_gtr | exact bin_leq | exact bin_geq | exact un_not | exact pick_true | exact pick_false | exact qy | exact qn | exact qi | exact qj) ?_ | refine opW_i (by first | exact lenSl_sl | exact min_w | exact max_w) ?_ | refine wy ?_ | refine wn ?_ | refine wIf_t rfl ?_ | refine wIf_f rfl ?_ | refine cond_yes rfl ?_ | refine cond_no rfl ?_ | refine ld hO 0 rfl rfl ?_ | refine ld hO 1 rfl rfl ?_ | refine ld hO 2 rfl rfl ?_ | refine ld hO 3 rfl rfl ?_ | refine ld hO 4 rfl rfl ?_ | refine ld hO 5 rfl rfl ?_)
    refine wIf_dec (fun h2 => ?_) (fun h2 => ?_)
    · repeat (first | refine opP_i (by first | exact qa | exact qs | exact nilCheck_ptr | exact offPtr_ptr | exact bin_eql | exact bin_neq | exact bin_lss | exact bin_gtr | exact bin_leq | exact bin_geq | exact un_not | exact pick_true | exact pick_false | exact qy | exact qn | exact qi | exact qj) ?_ | refine opW_i (by first | exact lenSl_sl | exact min_w | exact max_w) ?_ | refine wy ?_ | refine wn ?_ | refine wIf_t rfl ?_ | refine wIf_f rfl ?_ | refine cond_yes rfl ?_ | refine cond_no rfl ?_ | refine ld hO 0 rfl rfl ?_ | refine ld hO 1 rfl rfl ?_ | refine ld hO 2 rfl rfl ?_ | refine ld hO 3 rfl rfl ?_ | refine ld hO 4 rfl rfl ?_ | refine ld hO 5 rfl rfl ?_)
      refine wIf_dec (fun h3 => ?_) (fun h3 => ?_)
      · repeat (first | refine opP_i (by first | exact qa | exact qs | exact nilCheck_ptr | exact offPtr_ptr | exact bin_eql | exact bin_neq | exact bin_lss | exact bin_gtr | exact bin_leq | exact bin_geq | exact un_not | exact pick_true | exact pick_false | exact qy | exact qn | exact qi | exact qj) ?_ | refine opW_i (by first | exact lenSl_sl | exact min_w | exact max_w) ?_ | refine wy ?_ | refine wn ?_ | refine wIf_t rfl ?_ | refine wIf_f rfl ?_ | refine cond_yes rfl ?_ | refine cond_no rfl ?_ | refine ld hO 0 rfl rfl ?_ | refine ld hO 1 rfl rfl ?_ | refine ld hO 2 rfl rfl ?_ | refine ld hO 3 rfl rfl ?_ | refine ld hO 4 rfl rfl ?_ | refine ld hO 5 rfl rfl ?_)
        refine loadAgg_at hO (Γ.length + 0) (at_r rfl) (show _ = slC c.to from rfl) rfl (by omega) ?_
        refine opP_i b26 ?_
        refine opP_i (eq_sz _ _) ?_
        by_cases hz : SZ c.to
        · rw [decide_eq_true hz]
          repeat (first | refine opP_i (by first | exact qa | exact qs | exact nilCheck_ptr | exact offPtr_ptr | exact bin_eql | exact bin_neq | exact bin_lss | exact bin_gtr | exact bin_leq | exact bin_geq | exact un_not | exact pick_true | exact pick_false | exact qy | exact qn | exact qi | exact qj) ?_ | refine opW_i (by first | exact lenSl_sl | exact min_w | exact max_w) ?_ | refine wy ?_ | refine wn ?_ | refine wIf_t rfl ?_ | refine wIf_f rfl ?_ | refine cond_yes rfl ?_ | refine cond_no rfl ?_ | refine ld hO 0 rfl rfl ?_ | refine ld hO 1 rfl rfl ?_ | refine ld hO 2 rfl rfl ?_ | refine ld hO 3 rfl rfl ?_ | refine ld hO 4 rfl rfl ?_ | refine ld hO 5 rfl rfl ?_)
          refine wIf_dec (fun h4 => ?_) (fun h4 => ?_)
          · repeat (first | refine opP_i (by first | exact qa | exact qs | exact nilCheck_ptr | exact offPtr_ptr | exact bin_eql | exact bin_neq | exact bin_lss | exact bin_gtr | exact bin_leq | exact bin_geq | exact un_not | exact pick_true | exact pick_false | exact qy | exact qn | exact qi | exact qj) ?_ | refine opW_i (by first | exact lenSl_sl | exact min_w | exact max_w) ?_ | refine wy ?_ | refine wn ?_ | refine wIf_t rfl ?_ | refine wIf_f rfl ?_ | refine cond_yes rfl ?_ | refine cond_no rfl ?_ | refine ld hO 0 rfl rfl ?_ | refine ld hO 1 rfl rfl ?_ | refine ld hO 2 rfl rfl ?_ | refine ld hO 3 rfl rfl ?_ | refine ld hO 4 rfl rfl ?_ | refine ld hO 5 rfl rfl ?_)
            refine yes _ ?_ _ hO
            unfold CRight Ix
            exact ⟨fun h => .inr (.inl ⟨h1', by omega, h2, hz, h3⟩), fun h => by rcases h with h | h | h | h <;> omega⟩
          · repeat (first | refine opP_i (by first | exact qa | exact qs | exact nilCheck_ptr | exact offPtr_ptr | exact bin_eql | exact bin_neq | exact bin_lss | exact bin_gtr | exact bin_leq | exact bin_geq | exact un_not | exact pick_true | exact pick_false | exact qy | exact qn | exact qi | exact qj) ?_ | refine opW_i (by first | exact lenSl_sl | exact min_w | exact max_w) ?_ | refine wy ?_ | refine wn ?_ | refine wIf_t rfl ?_ | refine wIf_f rfl ?_ | refine cond_yes rfl ?_ | refine cond_no rfl ?_ | refine ld hO 0 rfl rfl ?_ | refine ld hO 1 rfl rfl ?_ | refine ld hO 2 rfl rfl ?_ | refine ld hO 3 rfl rfl ?_ | refine ld hO 4 rfl rfl ?_ | refine ld hO 5 rfl rfl ?_)
            exact no (by unfold CRight Ix; omega) _ hO
        · rw [decide_eq_false hz]
          repeat (first | refine opP_i (by first | exact qa | exact qs | exact nilCheck_ptr | exact offPtr_ptr | exact bin_eql | exact bin_neq | exact bin_lss | exact bin_gtr | exact bin_leq | exact bin_geq | exact un_not | exact pick_true | exact pick_false | exact qy | exact qn | exact qi | exact qj) ?_ | refine opW_i (by first | exact lenSl_sl | exact min_w | exact max_w) ?_ | refine wy ?_ | refine wn ?_ | refine wIf_t rfl ?_ | refine wIf_f rfl ?_ | refine cond_yes rfl ?_ | refine cond_no rfl ?_ | refine ld hO 0 rfl rfl ?_ | refine ld hO 1 rfl rfl ?_ | refine ld hO 2 rfl rfl ?_ | refine ld hO 3 rfl rfl ?_ | refine ld hO 4 rfl rfl ?_ | refine ld hO 5 rfl rfl ?_)
          exact no (by unfold CRight; rintro (h | h | h | h); omega; exact hz h.2.2.2.1; omega; omega) _ hO
      · repeat (first | refine opP_i (by first | exact qa | exact qs | exact nilCheck_ptr | exact offPtr_ptr | exact bin_eql | exact bin_neq | exact bin_lss | exact bin_gtr | exact bin_leq | exact bin_geq | exact un_not | exact pick_true | exact pick_false | exact qy | exact qn | exact qi | exact qj) ?_ | refine opW_i (by first | exact lenSl_sl | exact min_w | exact max_w) ?_ | refine wy ?_ | refine wn ?_ | refine wIf_t rfl ?_ | refine wIf_f rfl ?_ | refine cond_yes rfl ?_ | refine cond_no rfl ?_ | refine ld hO 0 rfl rfl ?_ | refine ld hO 1 rfl rfl ?_ | refine ld hO 2 rfl rfl ?_ | refine ld hO 3 rfl rfl ?_ | refine ld hO 4 rfl rfl ?_ | refine ld hO 5 rfl rfl ?_)
        exact no (by unfold CRight Ix; omega) _ hO
    · repeat (first | refine opP_i (by first | exact qa | exact qs | exact nilCheck_ptr | exact offPtr_ptr | exact bin_eql | exact bin_neq | exact bin_lss | exact bin_gtr | exact bin_leq | exact bin_geq | exact un_not | exact pick_true | exact pick_false | exact qy | exact qn | exact qi | exact qj) ?_ | refine opW_i (by first | exact lenSl_sl | exact min_w | exact max_w) ?_ | refine wy ?_ | refine wn ?_ | refine wIf_t rfl ?_ | refine wIf_f rfl ?_ | refine cond_yes rfl ?_ | refine cond_no rfl ?_ | refine ld hO 0 rfl rfl ?_ | refine ld hO 1 rfl rfl ?_ | refine ld hO 2 rfl rfl ?_ | refine ld hO 3 rfl rfl ?_ | refine ld hO 4 rfl rfl ?_ | refine ld hO 5 rfl rfl ?_)
      exact no (by unfold CRight Ix; omega) _ hO
  repeat (first | refine opP_i (by first | exact qa | exact qs | exact nilCheck_ptr | exact offPtr_ptr | exact bin_eql | exact bin_neq | exact bin_lss | exact bin_gtr | exact bin_leq | exact bin_geq | exact un_not | exact pick_true | exact pick_false | exact qy | exact qn | exact qi | exact qj) ?_ | refine opW_i (by first | exact lenSl_sl | exact min_w | exact max_w) ?_ | refine wy ?_ | refine wn ?_ | refine wIf_t rfl ?_ | refine wIf_f rfl ?_ | refine cond_yes rfl ?_ | refine cond_no rfl ?_ | refine ld hO 0 rfl rfl ?_ | refine ld hO 1 rfl rfl ?_ | refine ld hO 2 rfl rfl ?_ | refine ld hO 3 rfl rfl ?_ | refine ld hO 4 rfl rfl ?_ | refine ld hO 5 rfl rfl ?_)
  refine wIf_dec (fun h1'' => ?_) (fun h1'' => ?_)
  · repeat (first | refine opP_i (by first | exact qa | exact qs | exact nilCheck_ptr | exact offPtr_ptr | exact bin_eql | exact bin_neq | exact bin_lss | exact bin_gtr | exact bin_leq | exact bin_geq | exact un_not | exact pick_true | exact pick_false | exact qy | exact qn | exact qi | exact qj) ?_ | refine opW_i (by first | exact lenSl_sl | exact min_w | exact max_w) ?_ | refine wy ?_ | refine wn ?_ | refine wIf_t rfl ?_ | refine wIf_f rfl ?_ | refine cond_yes rfl ?_ | refine cond_no rfl ?_ | refine ld hO 0 rfl rfl ?_ | refine ld hO 1 rfl rfl ?_ | refine ld hO 2 rfl rfl ?_ | refine ld hO 3 rfl rfl ?_ | refine ld hO 4 rfl rfl ?_ | refine ld hO 5 rfl rfl ?_)
    refine wIf_dec (fun h2 => ?_) (fun h2 => ?_)
    · repeat (first | refine opP_i (by first | exact qa | exact qs | exact nilCheck_ptr | exact offPtr_ptr | exact bin_eql | exact bin_neq | exact bin_lss | exact bin_gtr | exact bin_leq | exact bin_geq | exact un_not | exact pick_true | exact pick_false | exact qy | exact qn | exact qi | exact qj) ?_ | refine opW_i (by first | exact lenSl_sl | exact min_w | exact max_w) ?_ | refine wy ?_ | refine wn ?_ | refine wIf_t rfl ?_ | refine wIf_f rfl ?_ | refine cond_yes rfl ?_ | refine cond_no rfl ?_ | refine ld hO 0 rfl rfl ?_ | refine ld hO 1 rfl rfl ?_ | refine ld hO 2 rfl rfl ?_ | refine ld hO 3 rfl rfl ?_ | refine ld hO 4 rfl rfl ?_ | refine ld hO 5 rfl rfl ?_)
      refine wIf_dec (fun h3 => ?_) (fun h3 => ?_)
      · repeat (first | refine opP_i (by first | exact qa | exact qs | exact nilCheck_ptr | exact offPtr_ptr | exact bin_eql | exact bin_neq | exact bin_lss | exact bin_gtr | exact bin_leq | exact bin_geq | exact un_not | exact pick_true | exact pick_false | exact qy | exact qn | exact qi | exact qj) ?_ | refine opW_i (by first | exact lenSl_sl | exact min_w | exact max_w) ?_ | refine wy ?_ | refine wn ?_ | refine wIf_t rfl ?_ | refine wIf_f rfl ?_ | refine cond_yes rfl ?_ | refine cond_no rfl ?_ | refine ld hO 0 rfl rfl ?_ | refine ld hO 1 rfl rfl ?_ | refine ld hO 2 rfl rfl ?_ | refine ld hO 3 rfl rfl ?_ | refine ld hO 4 rfl rfl ?_ | refine ld hO 5 rfl rfl ?_)
        refine loadAgg_at hO (Γ.length + 0) (at_r rfl) (show _ = slC c.to from rfl) rfl (by omega) ?_
        refine opP_i b26 ?_
        refine opP_i (eq_sz _ _) ?_
        by_cases hz : SZ c.to
        · rw [decide_eq_true hz]
          repeat (first | refine opP_i (by first | exact qa | exact qs | exact nilCheck_ptr | exact offPtr_ptr | exact bin_eql | exact bin_neq | exact bin_lss | exact bin_gtr | exact bin_leq | exact bin_geq | exact un_not | exact pick_true | exact pick_false | exact qy | exact qn | exact qi | exact qj) ?_ | refine opW_i (by first | exact lenSl_sl | exact min_w | exact max_w) ?_ | refine wy ?_ | refine wn ?_ | refine wIf_t rfl ?_ | refine wIf_f rfl ?_ | refine cond_yes rfl ?_ | refine cond_no rfl ?_ | refine ld hO 0 rfl rfl ?_ | refine ld hO 1 rfl rfl ?_ | refine ld hO 2 rfl rfl ?_ | refine ld hO 3 rfl rfl ?_ | refine ld hO 4 rfl rfl ?_ | refine ld hO 5 rfl rfl ?_)
          refine wIf_dec (fun h4 => ?_) (fun h4 => ?_)
          · repeat (first | refine opP_i (by first | exact qa | exact qs | exact nilCheck_ptr | exact offPtr_ptr | exact bin_eql | exact bin_neq | exact bin_lss | exact bin_gtr | exact bin_leq | exact bin_geq | exact un_not | exact pick_true | exact pick_false | exact qy | exact qn | exact qi | exact qj) ?_ | refine opW_i (by first | exact lenSl_sl | exact min_w | exact max_w) ?_ | refine wy ?_ | refine wn ?_ | refine wIf_t rfl ?_ | refine wIf_f rfl ?_ | refine cond_yes rfl ?_ | refine cond_no rfl ?_ | refine ld hO 0 rfl rfl ?_ | refine ld hO 1 rfl rfl ?_ | refine ld hO 2 rfl rfl ?_ | refine ld hO 3 rfl rfl ?_ | refine ld hO 4 rfl rfl ?_ | refine ld hO 5 rfl rfl ?_)
            refine yes _ ?_ _ hO
            unfold CRight Ix
            exact ⟨fun h => .inr (.inr (.inl ⟨h1'', by omega, h2, hz, h3⟩)), fun h => by rcases h with h | h | h | h <;> omega⟩
          · repeat (first | refine opP_i (by first | exact qa | exact qs | exact nilCheck_ptr | exact offPtr_ptr | exact bin_eql | exact bin_neq | exact bin_lss | exact bin_gtr | exact bin_leq | exact bin_geq | exact un_not | exact pick_true | exact pick_false | exact qy | exact qn | exact qi | exact qj) ?_ | refine opW_i (by first | exact lenSl_sl | exact min_w | exact max_w) ?_ | refine wy ?_ | refine wn ?_ | refine wIf_t rfl ?_ | refine wIf_f rfl ?_ | refine cond_yes rfl ?_ | refine cond_no rfl ?_ | refine ld hO 0 rfl rfl ?_ | refine ld hO 1 rfl rfl ?_ | refine ld hO 2 rfl rfl ?_ | refine ld hO 3 rfl rfl ?_ | refine ld hO 4 rfl rfl ?_ | refine ld hO 5 rfl rfl ?_)
            exact no (by unfold CRight Ix; omega) _ hO
        · rw [decide_eq_false hz]
          repeat (first | refine opP_i (by first | exact qa | exact qs | exact nilCheck_ptr | exact offPtr_ptr | exact bin_eql | exact bin_neq | exact bin_lss | exact bin_gtr | exact bin_leq | exact bin_geq | exact un_not | exact pick_true | exact pick_false | exact qy | exact qn | exact qi | exact qj) ?_ | refine opW_i (by first | exact lenSl_sl | exact min_w | exact max_w) ?_ | refine wy ?_ | refine wn ?_ | refine wIf_t rfl ?_ | refine wIf_f rfl ?_ | refine cond_yes rfl ?_ | refine cond_no rfl ?_ | refine ld hO 0 rfl rfl ?_ | refine ld hO 1 rfl rfl ?_ | refine ld hO 2 rfl rfl ?_ | refine ld hO 3 rfl rfl ?_ | refine ld hO 4 rfl rfl ?_ | refine ld hO 5 rfl rfl ?_)
          exact no (by unfold CRight; rintro (h | h | h | h); omega; omega; exact hz h.2.2.2.1; omega) _ hO
      · repeat (first | refine opP_i (by first | exact qa | exact qs | exact nilCheck_ptr | exact offPtr_ptr | exact bin_eql | exact bin_neq | exact bin_lss | exact bin_gtr | exact bin_leq | exact bin_geq | exact un_not | exact pick_true | exact pick_false | exact qy | exact qn | exact qi | exact qj) ?_ | refine opW_i (by first | exact lenSl_sl | exact min_w | exact max_w) ?_ | refine wy ?_ | refine wn ?_ | refine wIf_t rfl ?_ | refine wIf_f rfl ?_ | refine cond_yes rfl ?_ | refine cond_no rfl ?_ | refine ld hO 0 rfl rfl ?_ | refine ld hO 1 rfl rfl ?_ | refine ld hO 2 rfl rfl ?_ | refine ld hO 3 rfl rfl ?_ | refine ld hO 4 rfl rfl ?_ | refine ld hO 5 rfl rfl ?_)
        exact no (by unfold CRight Ix; omega) _ hO
    · repeat (first | refine opP_i (by first | exact qa | exact qs | exact nilCheck_ptr | exact offPtr_ptr | exact bin_eql | exact bin_neq | exact bin_lss | exact bin_gtr | exact bin_leq | exact bin_geq | exact un_not | exact pick_true | exact pick_false | exact qy | exact qn | exact qi | exact qj) ?_ | refine opW_i (by first | exact lenSl_sl | exact min_w | exact max_w) ?_ | refine wy ?_ | refine wn ?_ | refine wIf_t rfl ?_ | refine wIf_f rfl ?_ | refine cond_yes rfl ?_ | refine cond_no rfl ?_ | refine ld hO 0 rfl rfl ?_ | refine ld hO 1 rfl rfl ?_ | refine ld hO 2 rfl rfl ?_ | refine ld hO 3 rfl rfl ?_ | refine ld hO 4 rfl rfl ?_ | refine ld hO 5 rfl rfl ?_)
      exact no (by unfold CRight Ix; omega) _ hO
  repeat (first | refine opP_i (by first | exact qa | exact qs | exact nilCheck_ptr | exact offPtr_ptr | exact bin_eql | exact bin_neq | exact bin_lss | exact bin_gtr | exact bin_leq | exact bin_geq | exact un_not | exact pick_true | exact pick_false | exact qy | exact qn | exact qi | exact qj) ?_ | refine opW_i (by first | exact lenSl_sl | exact min_w | exact max_w) ?_ | refine wy ?_ | refine wn ?_ | refine wIf_t rfl ?_ | refine wIf_f rfl ?_ | refine cond_yes rfl ?_ | refine cond_no rfl ?_ | refine ld hO 0 rfl rfl ?_ | refine ld hO 1 rfl rfl ?_ | refine ld hO 2 rfl rfl ?_ | refine ld hO 3 rfl rfl ?_ | refine ld hO 4 rfl rfl ?_ | refine ld hO 5 rfl rfl ?_)
  refine wIf_dec (fun h1''' => ?_) (fun h1''' => ?_)
  · repeat (first | refine opP_i (by first | exact qa | exact qs | exact nilCheck_ptr | exact offPtr_ptr | exact bin_eql | exact bin_neq | exact bin_lss | exact bin_gtr | exact bin_leq | exact bin_geq | exact un_not | exact pick_true | exact pick_false | exact qy | exact qn | exact qi | exact qj) ?_ | refine opW_i (by first | exact lenSl_sl | exact min_w | exact max_w) ?_ | refine wy ?_ | refine wn ?_ | refine wIf_t rfl ?_ | refine wIf_f rfl ?_ | refine cond_yes rfl ?_ | refine cond_no rfl ?_ | refine ld hO 0 rfl rfl ?_ | refine ld hO 1 rfl rfl ?_ | refine ld hO 2 rfl rfl ?_ | refine ld hO 3 rfl rfl ?_ | refine ld hO 4 rfl rfl ?_ | refine ld hO 5 rfl rfl ?_)
    refine wIf_dec (fun h2 => ?_) (fun h2 => ?_)
    · repeat (first | refine opP_i (by first | exact qa | exact qs | exact nilCheck_ptr | exact offPtr_ptr | exact bin_eql | exact bin_neq | exact bin_lss | exact bin_gtr | exact bin_leq | exact bin_geq | exact un_not | exact pick_true | exact pick_false | exact qy | exact qn | exact qi | exact qj) ?_ | refine opW_i (by first | exact lenSl_sl | exact min_w | exact max_w) ?_ | refine wy ?_ | refine wn ?_ | refine wIf_t rfl ?_ | refine wIf_f rfl ?_ | refine cond_yes rfl ?_ | refine cond_no rfl ?_ | refine ld hO 0 rfl rfl ?_ | refine ld hO 1 rfl rfl ?_ | refine ld hO 2 rfl rfl ?_ | refine ld hO 3 rfl rfl ?_ | refine ld hO 4 rfl rfl ?_ | refine ld hO 5 rfl rfl ?_)
      refine wIf_dec (fun h3 => ?_) (fun h3 => ?_)
      · repeat (first | refine opP_i (by first | exact qa | exact qs | exact nilCheck_ptr | exact offPtr_ptr | exact bin_eql | exact bin_neq | exact bin_lss | exact bin_gtr | exact bin_leq | exact bin_geq | exact un_not | exact pick_true | exact pick_false | exact qy | exact qn | exact qi | exact qj) ?_ | refine opW_i (by first | exact lenSl_sl | exact min_w | exact max_w) ?_ | refine wy ?_ | refine wn ?_ | refine wIf_t rfl ?_ | refine wIf_f rfl ?_ | refine cond_yes rfl ?_ | refine cond_no rfl ?_ | refine ld hO 0 rfl rfl ?_ | refine ld hO 1 rfl rfl ?_ | refine ld hO 2 rfl rfl ?_ | refine ld hO 3 rfl rfl ?_ | refine ld hO 4 rfl rfl ?_ | refine ld hO 5 rfl rfl ?_)
        refine loadAgg_at hO (Γ.length + 0) (at_r rfl) (show _ = slC c.to from rfl) rfl (by omega) ?_
        refine opP_i b26 ?_
        refine opP_i (eq_sz _ _) ?_
        by_cases hz : SZ c.to
        · rw [decide_eq_true hz]
          repeat (first | refine opP_i (by first | exact qa | exact qs | exact nilCheck_ptr | exact offPtr_ptr | exact bin_eql | exact bin_neq | exact bin_lss | exact bin_gtr | exact bin_leq | exact bin_geq | exact un_not | exact pick_true | exact pick_false | exact qy | exact qn | exact qi | exact qj) ?_ | refine opW_i (by first | exact lenSl_sl | exact min_w | exact max_w) ?_ | refine wy ?_ | refine wn ?_ | refine wIf_t rfl ?_ | refine wIf_f rfl ?_ | refine cond_yes rfl ?_ | refine cond_no rfl ?_ | refine ld hO 0 rfl rfl ?_ | refine ld hO 1 rfl rfl ?_ | refine ld hO 2 rfl rfl ?_ | refine ld hO 3 rfl rfl ?_ | refine ld hO 4 rfl rfl ?_ | refine ld hO 5 rfl rfl ?_)
          refine yes _ ?_ _ hO
          unfold CRight Ix
          exact ⟨fun h => .inr (.inr (.inr ⟨h1''', h, h2, h3, hz⟩)), fun h => by rcases h with h | h | h | h <;> omega⟩
        · rw [decide_eq_false hz]
          repeat (first | refine opP_i (by first | exact qa | exact qs | exact nilCheck_ptr | exact offPtr_ptr | exact bin_eql | exact bin_neq | exact bin_lss | exact bin_gtr | exact bin_leq | exact bin_geq | exact un_not | exact pick_true | exact pick_false | exact qy | exact qn | exact qi | exact qj) ?_ | refine opW_i (by first | exact lenSl_sl | exact min_w | exact max_w) ?_ | refine wy ?_ | refine wn ?_ | refine wIf_t rfl ?_ | refine wIf_f rfl ?_ | refine cond_yes rfl ?_ | refine cond_no rfl ?_ | refine ld hO 0 rfl rfl ?_ | refine ld hO 1 rfl rfl ?_ | refine ld hO 2 rfl rfl ?_ | refine ld hO 3 rfl rfl ?_ | refine ld hO 4 rfl rfl ?_ | refine ld hO 5 rfl rfl ?_)
          exact no (by unfold CRight; rintro (h | h | h | h); omega; omega; omega; exact hz h.2.2.2.2) _ hO
      · repeat (first | refine opP_i (by first | exact qa | exact qs | exact nilCheck_ptr | exact offPtr_ptr | exact bin_eql | exact bin_neq | exact bin_lss | exact bin_gtr | exact bin_leq | exact bin_geq | exact un_not | exact pick_true | exact pick_false | exact qy | exact qn | exact qi | exact qj) ?_ | refine opW_i (by first | exact lenSl_sl | exact min_w | exact max_w) ?_ | refine wy ?_ | refine wn ?_ | refine wIf_t rfl ?_ | refine wIf_f rfl ?_ | refine cond_yes rfl ?_ | refine cond_no rfl ?_ | refine ld hO 0 rfl rfl ?_ | refine ld hO 1 rfl rfl ?_ | refine ld hO 2 rfl rfl ?_ | refine ld hO 3 rfl rfl ?_ | refine ld hO 4 rfl rfl ?_ | refine ld hO 5 rfl rfl ?_)
        exact no (by unfold CRight Ix; omega) _ hO
    · repeat (first | refine opP_i (by first | exact qa | exact qs | exact nilCheck_ptr | exact offPtr_ptr | exact bin_eql | exact bin_neq | exact bin_lss | exact bin_gtr | exact bin_leq | exact bin_geq | exact un_not | exact pick_true | exact pick_false | exact qy | exact qn | exact qi | exact qj) ?_ | refine opW_i (by first | exact lenSl_sl | exact min_w | exact max_w) ?_ | refine wy ?_ | refine wn ?_ | refine wIf_t rfl ?_ | refine wIf_f rfl ?_ | refine cond_yes rfl ?_ | refine cond_no rfl ?_ | refine ld hO 0 rfl rfl ?_ | refine ld hO 1 rfl rfl ?_ | refine ld hO 2 rfl rfl ?_ | refine ld hO 3 rfl rfl ?_ | refine ld hO 4 rfl rfl ?_ | refine ld hO 5 rfl rfl ?_)
      exact no (by unfold CRight Ix; omega) _ hO
  repeat (first | refine opP_i (by first | exact qa | exact qs | exact nilCheck_ptr | exact offPtr_ptr | exact bin_eql | exact bin_neq | exact bin_lss | exact bin_gtr | exact bin_leq | exact bin_geq | exact un_not | exact pick_true | exact pick_false | exact qy | exact qn | exact qi | exact qj) ?_ | refine opW_i (by first | exact lenSl_sl | exact min_w | exact max_w) ?_ | refine wy ?_ | refine wn ?_ | refine wIf_t rfl ?_ | refine wIf_f rfl ?_ | refine cond_yes rfl ?_ | refine cond_no rfl ?_ | refine ld hO 0 rfl rfl ?_ | refine ld hO 1 rfl rfl ?_ | refine ld hO 2 rfl rfl ?_ | refine ld hO 3 rfl rfl ?_ | refine ld hO 4 rfl rfl ?_ | refine ld hO 5 rfl rfl ?_)
  exact no (by unfold CRight Ix; omega) _ hO
theorem ref11_All_spec (hO : St H Γ) (hv : RdC Γ v l) (hl : l.length ≤ 1000000) (hk : ∀ H', St H' Γ → K (.bool (decide (TOk l))) H') : wCall P n_ref11_All [v] H K := by
  apply ref11_All_ok; unfold ref11_All
  refine opW_i (by rw [hv.1]) ?_
  refine ref11_All_L0_ind (fun k l' H' => ∃ y : Nat, y ≤ l.length ∧ k = l.length - y ∧ l' = [v, .bool false, v, int l.length, int y] ∧ St H' Γ ∧ ∀ c ∈ l.take y, CRight c) _ _ ?_ l.length _ _ ⟨0, by omega, by omega, rfl, hO, by simp⟩
  clear hO
  rintro k l' H' ⟨y, hy, rfl, rfl, hO, hc⟩
  unfold ref11_All_L0
  try simp only [nth_zero, nth_succ]
  repeat (first | refine opP_i (by first | exact qa | exact qs | exact nilCheck_ptr | exact offPtr_ptr | exact bin_eql | exact bin_neq | exact bin_lss | exact bin_gtr | exact bin_leq | exact bin_geq | exact un_not | exact pick_true | exact pick_false | exact qy | exact qn | exact qi | exact qj) ?_ | refine opW_i (by first | exact lenSl_sl | exact min_w | exact max_w) ?_ | refine wy ?_ | refine wn ?_ | refine wIf_t rfl ?_ | refine wIf_f rfl ?_ | refine cond_yes rfl ?_ | refine cond_no rfl ?_)
  refine wIf_dec (fun h2 => ?_) (fun h2 => ?_)
  · rcases hv.2 with rfl | ⟨p, cp, j, rfl, w, hj⟩
    · simp at h2; omega
    have hyl : y < l.length := by omega
    have e : 0 + ((y : Nat) : Int).toNat * 40 = y * 40 := by rw [Int.toNat_natCast]; omega
    repeat (first | refine opP_i (by first | exact qa | exact qs | exact nilCheck_ptr | exact offPtr_ptr | exact bin_eql | exact bin_neq | exact bin_lss | exact bin_gtr | exact bin_leq | exact bin_geq | exact un_not | exact pick_true | exact pick_false | exact qy | exact qn | exact qi | exact qj) ?_ | refine opW_i (by first | exact lenSl_sl | exact min_w | exact max_w) ?_ | refine wy ?_ | refine wn ?_ | refine wIf_t rfl ?_ | refine wIf_f rfl ?_ | refine cond_yes rfl ?_ | refine cond_no rfl ?_)
    refine loadAgg_at hO j hj (show _ = chC l[y] from ?_) rfl (by omega) ?_
    · rw [e]; exact chs_at l y hyl
    rw [zc58]
    refine new_at hO ?_
    intro q H hO
    refine storeAll_at hO (Γ.length + 0) (at_r rfl) rfl rfl rfl ?_
    intro H hO
    replace hO := hO.set_r
    refine loadAll_at hO (Γ.length + 0) (at_r rfl) rfl (by omega) ?_
    refine ref11_One_spec hO ?_
    intro H hO
    by_cases hr : CRight l[y]
    · rw [decide_eq_true hr]
      repeat (first | refine opP_i (by first | exact qa | exact qs | exact nilCheck_ptr | exact offPtr_ptr | exact bin_eql | exact bin_neq | exact bin_lss | exact bin_gtr | exact bin_leq | exact bin_geq | exact un_not | exact pick_true | exact pick_false | exact qy | exact qn | exact qi | exact qj) ?_ | refine opW_i (by first | exact lenSl_sl | exact min_w | exact max_w) ?_ | refine wy ?_ | refine wn ?_ | refine wIf_t rfl ?_ | refine wIf_f rfl ?_ | refine cond_yes rfl ?_ | refine cond_no rfl ?_)
      exact ⟨_, by omega, y + 1, by omega, rfl, rfl, hO.left, take_mem hyl hc hr⟩
    · rw [decide_eq_false hr]
      repeat (first | refine opP_i (by first | exact qa | exact qs | exact nilCheck_ptr | exact offPtr_ptr | exact bin_eql | exact bin_neq | exact bin_lss | exact bin_gtr | exact bin_leq | exact bin_geq | exact un_not | exact pick_true | exact pick_false | exact qy | exact qn | exact qi | exact qj) ?_ | refine opW_i (by first | exact lenSl_sl | exact min_w | exact max_w) ?_ | refine wy ?_ | refine wn ?_ | refine wIf_t rfl ?_ | refine wIf_f rfl ?_ | refine cond_yes rfl ?_ | refine cond_no rfl ?_)
      try simp only [nth_zero, nth_succ]
      rw [decide_eq_false (show ¬ TOk l from fun h => hr (h.2 _ (List.getElem_mem hyl)))] at hk
      exact hk _ hO.left
  · have e : y = l.length := by omega
    subst e
    rw [List.take_of_length_le (Nat.le_refl _)] at hc
    repeat (first | refine opP_i (by first | exact qa | exact qs | exact nilCheck_ptr | exact offPtr_ptr | exact bin_eql | exact bin_neq | exact bin_lss | exact bin_gtr | exact bin_leq | exact bin_geq | exact un_not | exact pick_true | exact pick_false | exact qy | exact qn | exact qi | exact qj) ?_ | refine opW_i (by first | exact lenSl_sl | exact min_w | exact max_w) ?_ | refine wy ?_ | refine wn ?_ | refine wIf_t rfl ?_ | refine wIf_f rfl ?_ | refine cond_yes rfl ?_ | refine cond_no rfl ?_)
    refine opW_i (by rw [hv.1]) ?_
    repeat (first | refine opP_i (by first | exact qa | exact qs | exact nilCheck_ptr | exact offPtr_ptr | exact bin_eql | exact bin_neq | exact bin_lss | exact bin_gtr | exact bin_leq | exact bin_geq | exact un_not | exact pick_true | exact pick_false | exact qy | exact qn | exact qi | exact qj) ?_ | refine opW_i (by first | exact lenSl_sl | exact min_w | exact max_w) ?_ | refine wy ?_ | refine wn ?_ | refine wIf_t rfl ?_ | refine wIf_f rfl ?_ | refine cond_yes rfl ?_ | refine cond_no rfl ?_)
    have := hk _ hO
    rw [show decide (TOk l) = decide ((l.length : Int) ≤ 8) from decide_eq_decide.2 ⟨fun h => by have := h.1; omega, fun h => ⟨by omega, hc⟩⟩] at this
    exact this
set_option maxHeartbeats 2000000 in
theorem ref11_Apply_spec (hO : St H Γ) (hv : RdC Γ v l) (hl : l.length ≤ 1000000) (hk : ∀ H', St H' Γ → K (.tuple [agg (tbC (tApply t l).1), int (tApply t l).2].toArray) H') : wCall P n_ref11_Apply [agg (tbC t), v] H K := by
  apply ref11_Apply_ok; unfold ref11_Apply
  refine new_at hO ?_
  intro p H hO
  rw [zc29]
  refine new_at hO ?_
  intro q H hO
  rw [List.append_assoc] at hO
  have hO : St H (Γ ++ [(p, ⟨tbC t, true⟩), (q, ⟨tbC tbz, true⟩)]) := hO
  refine join_with (fun l' H' => l' = [v, ptr p 0, ptr q 0, int 0, .bool (decide ¬(TRight t ∧ TOk l))] ∧ St H' (Γ ++ [(p, ⟨tbC t, true⟩), (q, ⟨tbC tbz, true⟩)])) ?_ ?_
  · refine loadAll_at hO (Γ.length + 0) (at_r rfl) rfl (by omega) ?_
    refine ref11_Right_spec hO ?_
    intro H hO
    by_cases h : TRight t
    · rw [decide_eq_true h]
      repeat (first | refine opP_i (by first | exact qa | exact qs | exact nilCheck_ptr | exact offPtr_ptr | exact bin_eql | exact bin_neq | exact bin_lss | exact bin_gtr | exact bin_leq | exact bin_geq | exact un_not | exact pick_true | exact pick_false | exact qy | exact qn | exact qi | exact qj) ?_ | refine opW_i (by first | exact lenSl_sl | exact min_w | exact max_w) ?_ | refine wy ?_ | refine wn ?_ | refine wIf_t rfl ?_ | refine wIf_f rfl ?_ | refine cond_yes rfl ?_ | refine cond_no rfl ?_)
      refine ref11_All_spec hO hv.app hl ?_
      intro H hO
      repeat (first | refine opP_i (by first | exact qa | exact qs | exact nilCheck_ptr | exact offPtr_ptr | exact bin_eql | exact bin_neq | exact bin_lss | exact bin_gtr | exact bin_leq | exact bin_geq | exact un_not | exact pick_true | exact pick_false | exact qy | exact qn | exact qi | exact qj) ?_ | refine opW_i (by first | exact lenSl_sl | exact min_w | exact max_w) ?_ | refine wy ?_ | refine wn ?_ | refine wIf_t rfl ?_ | refine wIf_f rfl ?_ | refine cond_yes rfl ?_ | refine cond_no rfl ?_)
      refine ⟨?_, hO⟩
      rw [show (decide ¬(TRight t ∧ TOk l)) = !decide (TOk l) by by_cases hf : TOk l <;> simp [h, hf]]
    · rw [decide_eq_false h]
      repeat (first | refine opP_i (by first | exact qa | exact qs | exact nilCheck_ptr | exact offPtr_ptr | exact bin_eql | exact bin_neq | exact bin_lss | exact bin_gtr | exact bin_leq | exact bin_geq | exact un_not | exact pick_true | exact pick_false | exact qy | exact qn | exact qi | exact qj) ?_ | refine opW_i (by first | exact lenSl_sl | exact min_w | exact max_w) ?_ | refine wy ?_ | refine wn ?_ | refine wIf_t rfl ?_ | refine wIf_f rfl ?_ | refine cond_yes rfl ?_ | refine cond_no rfl ?_)
      refine ⟨?_, hO⟩
      rw [show (decide ¬(TRight t ∧ TOk l)) = true by simp [h]]
  clear hO
  rintro l' H ⟨rfl, hO⟩
  try simp only [nth_zero, nth_succ]
  refine wIf_dec (fun h => ?_) (fun h => ?_)
  · rw [show tApply t l = (tbz, 111) from if_neg h] at hk
    refine opP_i b29 ?_
    refine storeAll_at hO (Γ.length + 1) (at_r rfl) rfl rfl rfl ?_
    intro H hO
    replace hO := hO.set_r
    refine loadAll_at hO (Γ.length + 1) (at_r rfl) rfl (by omega) ?_
    exact hk _ hO.left
  have h := Decidable.not_not.1 h
  rw [show tApply t l = (match apL t l with | some t' => (t', 0) | none => (tbz, 111)) from if_pos h] at hk
  refine opW_i (by rw [hv.1]) ?_
  refine ref11_Apply_L0_ind (fun k l' H' => ∃ (y : Nat) (t' : Tb), y ≤ l.length ∧ k = l.length - y ∧ l' = [ptr p 0, ptr q 0, int 0, v, int l.length, int y] ∧ St H' (Γ ++ [(p, ⟨tbC t', true⟩), (q, ⟨tbC tbz, true⟩)]) ∧ apL t l = apL t' (l.drop y)) _ _ ?_ l.length _ _ ⟨0, t, by omega, by omega, rfl, hO, rfl⟩
  clear hO
  rintro k l' H' ⟨y, t', hy, rfl, rfl, hO, ha⟩
  unfold ref11_Apply_L0
  try simp only [nth_zero, nth_succ]
  repeat (first | refine opP_i (by first | exact qa | exact qs | exact nilCheck_ptr | exact offPtr_ptr | exact bin_eql | exact bin_neq | exact bin_lss | exact bin_gtr | exact bin_leq | exact bin_geq | exact un_not | exact pick_true | exact pick_false | exact qy | exact qn | exact qi | exact qj) ?_ | refine opW_i (by first | exact lenSl_sl | exact min_w | exact max_w) ?_ | refine wy ?_ | refine wn ?_ | refine wIf_t rfl ?_ | refine wIf_f rfl ?_ | refine cond_yes rfl ?_ | refine cond_no rfl ?_)
  refine wIf_dec (fun h2 => ?_) (fun h2 => ?_)
  · rcases hv.2 with rfl | ⟨pv, cp, j, rfl, w, hj⟩
    · simp at h2; omega
    have hyl : y < l.length := by omega
    have e : 0 + ((y : Nat) : Int).toNat * 40 = y * 40 := by rw [Int.toNat_natCast]; omega
    have hcr := h.2.2 _ (List.getElem_mem hyl)
    have had : apL t l = (match ap1 t' l[y] with | some t'' => apL t'' (l.drop (y + 1)) | none => none) := by rw [ha, List.drop_eq_getElem_cons hyl]; rfl
    repeat (first | refine opP_i (by first | exact qa | exact qs | exact nilCheck_ptr | exact offPtr_ptr | exact bin_eql | exact bin_neq | exact bin_lss | exact bin_gtr | exact bin_leq | exact bin_geq | exact un_not | exact pick_true | exact pick_false | exact qy | exact qn | exact qi | exact qj) ?_ | refine opW_i (by first | exact lenSl_sl | exact min_w | exact max_w) ?_ | refine wy ?_ | refine wn ?_ | refine wIf_t rfl ?_ | refine wIf_f rfl ?_ | refine cond_yes rfl ?_ | refine cond_no rfl ?_)
    refine loadAgg_at hO j (at_l hj) (show _ = chC l[y] from ?_) rfl (by omega) ?_
    · rw [e]; exact chs_at l y hyl
    rw [zc58]
    refine new_at hO ?_
    intro b H hO
    rw [List.append_assoc] at hO
    generalize l[y] = c at *
    refine storeAll_at hO (Γ.length + 2) (at_r rfl) rfl rfl rfl ?_
    intro H hO
    replace hO : St H (Γ ++ [(p, ⟨tbC t', true⟩), (q, ⟨tbC tbz, true⟩), (b, ⟨chC c, true⟩)]) := hO.set_r
    unfold ap1 at had
    unfold CRight at hcr
    refine join_inline ?_
    by_cases h1 : c.kind = 1
    · rw [if_pos h1] at had
      have hi : Ix c.slot := by rcases hcr with h | h | h | h; exact h.2.1.1; all_goals omega
      have hi' := hi.bd
      repeat (first | refine opP_i (by first | exact qa | exact qs | exact nilCheck_ptr | exact offPtr_ptr | exact bin_eql | exact bin_neq | exact bin_lss | exact bin_gtr | exact bin_leq | exact bin_geq | exact un_not | exact pick_true | exact pick_false | exact qy | exact qn | exact qi | exact qj) ?_ | refine opW_i (by first | exact lenSl_sl | exact min_w | exact max_w) ?_ | refine wy ?_ | refine wn ?_ | refine wIf_t rfl ?_ | refine wIf_f rfl ?_ | refine cond_yes rfl ?_ | refine cond_no rfl ?_ | refine ld hO 0 rfl rfl ?_ | refine ld hO 1 rfl rfl ?_ | refine ld hO 2 rfl rfl ?_ | refine ld hO 3 rfl rfl ?_ | refine ld hO 4 rfl rfl ?_ | refine ld hO 5 rfl rfl ?_)
      refine loadAgg_at hO (Γ.length + 2) (at_r rfl) (show _ = slC c.to from rfl) rfl (by omega) ?_
      repeat (first | refine opP_i (by first | exact qa | exact qs | exact nilCheck_ptr | exact offPtr_ptr | exact bin_eql | exact bin_neq | exact bin_lss | exact bin_gtr | exact bin_leq | exact bin_geq | exact un_not | exact pick_true | exact pick_false | exact qy | exact qn | exact qi | exact qj) ?_ | refine opW_i (by first | exact lenSl_sl | exact min_w | exact max_w) ?_ | refine wy ?_ | refine wn ?_ | refine wIf_t rfl ?_ | refine wIf_f rfl ?_ | refine cond_yes rfl ?_ | refine cond_no rfl ?_ | refine ld hO 0 rfl rfl ?_ | refine ld hO 1 rfl rfl ?_ | refine ld hO 2 rfl rfl ?_ | refine ld hO 3 rfl rfl ?_ | refine ld hO 4 rfl rfl ?_ | refine ld hO 5 rfl rfl ?_)
      refine store_slot (t := t') (x := c.slot) hO (Γ.length + 0) (at_r rfl) hi (by omega) ?_
      intro H hO
      replace hO := hO.set_r
      refine join_inline ?_
      try simp only [nth_zero, nth_succ]
      repeat (first | refine opP_i (by first | exact qa | exact qs | exact nilCheck_ptr | exact offPtr_ptr | exact bin_eql | exact bin_neq | exact bin_lss | exact bin_gtr | exact bin_leq | exact bin_geq | exact un_not | exact pick_true | exact pick_false | exact qy | exact qn | exact qi | exact qj) ?_ | refine opW_i (by first | exact lenSl_sl | exact min_w | exact max_w) ?_ | refine wy ?_ | refine wn ?_ | refine wIf_t rfl ?_ | refine wIf_f rfl ?_ | refine cond_yes rfl ?_ | refine cond_no rfl ?_ | refine ld hO 0 rfl rfl ?_ | refine ld hO 1 rfl rfl ?_ | refine ld hO 2 rfl rfl ?_ | refine ld hO 3 rfl rfl ?_ | refine ld hO 4 rfl rfl ?_ | refine ld hO 5 rfl rfl ?_)
      refine join_inline ?_
      try simp only [nth_zero, nth_succ]
      repeat (first | refine opP_i (by first | exact qa | exact qs | exact nilCheck_ptr | exact offPtr_ptr | exact bin_eql | exact bin_neq | exact bin_lss | exact bin_gtr | exact bin_leq | exact bin_geq | exact un_not | exact pick_true | exact pick_false | exact qy | exact qn | exact qi | exact qj) ?_ | refine opW_i (by first | exact lenSl_sl | exact min_w | exact max_w) ?_ | refine wy ?_ | refine wn ?_ | refine wIf_t rfl ?_ | refine wIf_f rfl ?_ | refine cond_yes rfl ?_ | refine cond_no rfl ?_ | refine ld hO 0 rfl rfl ?_ | refine ld hO 1 rfl rfl ?_ | refine ld hO 2 rfl rfl ?_ | refine ld hO 3 rfl rfl ?_ | refine ld hO 4 rfl rfl ?_ | refine ld hO 5 rfl rfl ?_)
      exact ⟨_, by omega, y + 1, _, by omega, rfl, rfl, hO.keep 2, had⟩
    · rw [if_neg h1] at had
      repeat (first | refine opP_i (by first | exact qa | exact qs | exact nilCheck_ptr | exact offPtr_ptr | exact bin_eql | exact bin_neq | exact bin_lss | exact bin_gtr | exact bin_leq | exact bin_geq | exact un_not | exact pick_true | exact pick_false | exact qy | exact qn | exact qi | exact qj) ?_ | refine opW_i (by first | exact lenSl_sl | exact min_w | exact max_w) ?_ | refine wy ?_ | refine wn ?_ | refine wIf_t rfl ?_ | refine wIf_f rfl ?_ | refine cond_yes rfl ?_ | refine cond_no rfl ?_ | refine ld hO 0 rfl rfl ?_ | refine ld hO 1 rfl rfl ?_ | refine ld hO 2 rfl rfl ?_ | refine ld hO 3 rfl rfl ?_ | refine ld hO 4 rfl rfl ?_ | refine ld hO 5 rfl rfl ?_)
      refine join_inline ?_
      try simp only [nth_zero, nth_succ]
      by_cases h2 : c.kind = 2
      · rw [if_pos h2] at had
        repeat (first | refine opP_i (by first | exact qa | exact qs | exact nilCheck_ptr | exact offPtr_ptr | exact bin_eql | exact bin_neq | exact bin_lss | exact bin_gtr | exact bin_leq | exact bin_geq | exact un_not | exact pick_true | exact pick_false | exact qy | exact qn | exact qi | exact qj) ?_ | refine opW_i (by first | exact lenSl_sl | exact min_w | exact max_w) ?_ | refine wy ?_ | refine wn ?_ | refine wIf_t rfl ?_ | refine wIf_f rfl ?_ | refine cond_yes rfl ?_ | refine cond_no rfl ?_ | refine ld hO 0 rfl rfl ?_ | refine ld hO 1 rfl rfl ?_ | refine ld hO 2 rfl rfl ?_ | refine ld hO 3 rfl rfl ?_ | refine ld hO 4 rfl rfl ?_ | refine ld hO 5 rfl rfl ?_)
        refine store1_at hO (Γ.length + 0) (at_r rfl) rfl (show 72 < 75 by omega) (show _ = tbC { t' with act := c.n } from rfl) ?_
        intro H hO
        replace hO := hO.set_r
        refine join_inline ?_
        try simp only [nth_zero, nth_succ]
        repeat (first | refine opP_i (by first | exact qa | exact qs | exact nilCheck_ptr | exact offPtr_ptr | exact bin_eql | exact bin_neq | exact bin_lss | exact bin_gtr | exact bin_leq | exact bin_geq | exact un_not | exact pick_true | exact pick_false | exact qy | exact qn | exact qi | exact qj) ?_ | refine opW_i (by first | exact lenSl_sl | exact min_w | exact max_w) ?_ | refine wy ?_ | refine wn ?_ | refine wIf_t rfl ?_ | refine wIf_f rfl ?_ | refine cond_yes rfl ?_ | refine cond_no rfl ?_ | refine ld hO 0 rfl rfl ?_ | refine ld hO 1 rfl rfl ?_ | refine ld hO 2 rfl rfl ?_ | refine ld hO 3 rfl rfl ?_ | refine ld hO 4 rfl rfl ?_ | refine ld hO 5 rfl rfl ?_)
        exact ⟨_, by omega, y + 1, _, by omega, rfl, rfl, hO.keep 2, had⟩
      · rw [if_neg h2] at had
        repeat (first | refine opP_i (by first | exact qa | exact qs | exact nilCheck_ptr | exact offPtr_ptr | exact bin_eql | exact bin_neq | exact bin_lss | exact bin_gtr | exact bin_leq | exact bin_geq | exact un_not | exact pick_true | exact pick_false | exact qy | exact qn | exact qi | exact qj) ?_ | refine opW_i (by first | exact lenSl_sl | exact min_w | exact max_w) ?_ | refine wy ?_ | refine wn ?_ | refine wIf_t rfl ?_ | refine wIf_f rfl ?_ | refine cond_yes rfl ?_ | refine cond_no rfl ?_ | refine ld hO 0 rfl rfl ?_ | refine ld hO 1 rfl rfl ?_ | refine ld hO 2 rfl rfl ?_ | refine ld hO 3 rfl rfl ?_ | refine ld hO 4 rfl rfl ?_ | refine ld hO 5 rfl rfl ?_)
        refine join_inline ?_
        try simp only [nth_zero, nth_succ]
        by_cases h3 : c.kind = 3
        · rw [if_pos h3] at had
          repeat (first | refine opP_i (by first | exact qa | exact qs | exact nilCheck_ptr | exact offPtr_ptr | exact bin_eql | exact bin_neq | exact bin_lss | exact bin_gtr | exact bin_leq | exact bin_geq | exact un_not | exact pick_true | exact pick_false | exact qy | exact qn | exact qi | exact qj) ?_ | refine opW_i (by first | exact lenSl_sl | exact min_w | exact max_w) ?_ | refine wy ?_ | refine wn ?_ | refine wIf_t rfl ?_ | refine wIf_f rfl ?_ | refine cond_yes rfl ?_ | refine cond_no rfl ?_ | refine ld hO 0 rfl rfl ?_ | refine ld hO 1 rfl rfl ?_ | refine ld hO 2 rfl rfl ?_ | refine ld hO 3 rfl rfl ?_ | refine ld hO 4 rfl rfl ?_ | refine ld hO 5 rfl rfl ?_)
          refine store1_at hO (Γ.length + 0) (at_r rfl) rfl (show 73 < 75 by omega) (show _ = tbC { t' with boo := c.n } from rfl) ?_
          intro H hO
          replace hO := hO.set_r
          repeat (first | refine opP_i (by first | exact qa | exact qs | exact nilCheck_ptr | exact offPtr_ptr | exact bin_eql | exact bin_neq | exact bin_lss | exact bin_gtr | exact bin_leq | exact bin_geq | exact un_not | exact pick_true | exact pick_false | exact qy | exact qn | exact qi | exact qj) ?_ | refine opW_i (by first | exact lenSl_sl | exact min_w | exact max_w) ?_ | refine wy ?_ | refine wn ?_ | refine wIf_t rfl ?_ | refine wIf_f rfl ?_ | refine cond_yes rfl ?_ | refine cond_no rfl ?_ | refine ld hO 0 rfl rfl ?_ | refine ld hO 1 rfl rfl ?_ | refine ld hO 2 rfl rfl ?_ | refine ld hO 3 rfl rfl ?_ | refine ld hO 4 rfl rfl ?_ | refine ld hO 5 rfl rfl ?_)
          exact ⟨_, by omega, y + 1, _, by omega, rfl, rfl, hO.keep 2, had⟩
        · rw [if_neg h3] at had
          have h4 : c.kind = 4 := by omega
          repeat (first | refine opP_i (by first | exact qa | exact qs | exact nilCheck_ptr | exact offPtr_ptr | exact bin_eql | exact bin_neq | exact bin_lss | exact bin_gtr | exact bin_leq | exact bin_geq | exact un_not | exact pick_true | exact pick_false | exact qy | exact qn | exact qi | exact qj) ?_ | refine opW_i (by first | exact lenSl_sl | exact min_w | exact max_w) ?_ | refine wy ?_ | refine wn ?_ | refine wIf_t rfl ?_ | refine wIf_f rfl ?_ | refine cond_yes rfl ?_ | refine cond_no rfl ?_ | refine ld hO 0 rfl rfl ?_ | refine ld hO 1 rfl rfl ?_ | refine ld hO 2 rfl rfl ?_ | refine ld hO 3 rfl rfl ?_ | refine ld hO 4 rfl rfl ?_ | refine ld hO 5 rfl rfl ?_)
          refine wIf_dec (fun h5 => ?_) (fun h5 => ?_)
          · rw [if_pos h5] at had
            rw [had] at hk
            refine opP_i b29 ?_
            refine storeAll_at hO (Γ.length + 1) (at_r rfl) rfl rfl rfl ?_
            intro H hO
            replace hO := hO.set_r
            try simp only [nth_zero, nth_succ]
            refine loadAll_at hO (Γ.length + 1) (at_r rfl) rfl (by omega) ?_
            exact hk _ hO.left
          · rw [if_neg h5] at had
            repeat (first | refine opP_i (by first | exact qa | exact qs | exact nilCheck_ptr | exact offPtr_ptr | exact bin_eql | exact bin_neq | exact bin_lss | exact bin_gtr | exact bin_leq | exact bin_geq | exact un_not | exact pick_true | exact pick_false | exact qy | exact qn | exact qi | exact qj) ?_ | refine opW_i (by first | exact lenSl_sl | exact min_w | exact max_w) ?_ | refine wy ?_ | refine wn ?_ | refine wIf_t rfl ?_ | refine wIf_f rfl ?_ | refine cond_yes rfl ?_ | refine cond_no rfl ?_ | refine ld hO 0 rfl rfl ?_ | refine ld hO 1 rfl rfl ?_ | refine ld hO 2 rfl rfl ?_ | refine ld hO 3 rfl rfl ?_ | refine ld hO 4 rfl rfl ?_ | refine ld hO 5 rfl rfl ?_)
            refine store1_at hO (Γ.length + 0) (at_r rfl) rfl (show 74 < 75 by omega) (show _ = tbC { t' with flo := c.ver } from rfl) ?_
            intro H hO
            replace hO := hO.set_r
            repeat (first | refine opP_i (by first | exact qa | exact qs | exact nilCheck_ptr | exact offPtr_ptr | exact bin_eql | exact bin_neq | exact bin_lss | exact bin_gtr | exact bin_leq | exact bin_geq | exact un_not | exact pick_true | exact pick_false | exact qy | exact qn | exact qi | exact qj) ?_ | refine opW_i (by first | exact lenSl_sl | exact min_w | exact max_w) ?_ | refine wy ?_ | refine wn ?_ | refine wIf_t rfl ?_ | refine wIf_f rfl ?_ | refine cond_yes rfl ?_ | refine cond_no rfl ?_ | refine ld hO 0 rfl rfl ?_ | refine ld hO 1 rfl rfl ?_ | refine ld hO 2 rfl rfl ?_ | refine ld hO 3 rfl rfl ?_ | refine ld hO 4 rfl rfl ?_ | refine ld hO 5 rfl rfl ?_)
            exact ⟨_, by omega, y + 1, _, by omega, rfl, rfl, hO.keep 2, had⟩
  · have e : y = l.length := by omega
    subst e
    rw [List.drop_of_length_le (Nat.le_refl _)] at ha
    rw [show apL t l = some t' from ha] at hk
    repeat (first | refine opP_i (by first | exact qa | exact qs | exact nilCheck_ptr | exact offPtr_ptr | exact bin_eql | exact bin_neq | exact bin_lss | exact bin_gtr | exact bin_leq | exact bin_geq | exact un_not | exact pick_true | exact pick_false | exact qy | exact qn | exact qi | exact qj) ?_ | refine opW_i (by first | exact lenSl_sl | exact min_w | exact max_w) ?_ | refine wy ?_ | refine wn ?_ | refine wIf_t rfl ?_ | refine wIf_f rfl ?_ | refine cond_yes rfl ?_ | refine cond_no rfl ?_)
    try simp only [nth_zero, nth_succ]
    refine loadAll_at hO (Γ.length + 0) (at_r rfl) rfl (by omega) ?_
    refine storeAll_at hO (Γ.length + 1) (at_r rfl) rfl rfl rfl ?_
    intro H hO
    replace hO := hO.set_r
    refine loadAll_at hO (Γ.length + 1) (at_r rfl) rfl (by omega) ?_
    exact hk _ hO.left
end
end T
set_option linter.unusedVariables false
set_option maxRecDepth 100000
namespace T
open Go Go.Ab
variable {H : Heap} {Γ : List (Nat × Blk)} {K : Value → Heap → Prop} {v w x : Value} {xs ys : List Int}
section
variable {s : Sl} {t : Tb} {c : Ch} {l : List Ch}
/-- a change's bytes -/
def cBy (c : Ch) : List Int := leN 1 c.kind.toNat ++ (if c.kind = 1 then leN 1 c.slot.toNat ++ sBy' c.to else if c.kind = 2 then leN 1 c.n.toNat else if c.kind = 3 then leN 1 (c.n + 1).toNat else leN 8 c.ver.toNat)
def lBy (l : List Ch) : List Int := if TOk l then leN 1 l.length ++ l.flatMap cBy else []
theorem cBy_len (c : Ch) : (cBy c).length ≤ 48 := by
  unfold cBy
  have := sBy'_len (s := c.to)
  simp only [List.length_append, leN_len]
  split
  · simp [leN_len]; omega
  · split
    · simp [leN_len]
    · split <;> simp [leN_len]
theorem cBys_len : ∀ l : List Ch, (l.flatMap cBy).length ≤ l.length * 48
  | [] => by simp
  | c :: l => by
    have h1 := cBy_len c
    have h2 := cBys_len l
    simp only [List.flatMap_cons, List.length_append, List.length_cons]
    omega
theorem take_by {y : Nat} (h : y < l.length) : (l.take (y + 1)).flatMap cBy = (l.take y).flatMap cBy ++ cBy l[y] := by
  rw [List.take_succ_eq_append_getElem h, List.flatMap_append]; simp
theorem St.flip {A : List (Nat × Blk)} {y : Nat × Blk} (h : St H ((Γ ++ A) ++ [y])) : St H (Γ ++ (y :: A)) := h.perm (by
  rw [List.append_assoc]
  exact List.Perm.append_left Γ List.perm_append_comm)
theorem St.swap {A : List (Nat × Blk)} {y : Nat × Blk} (h : St H ((Γ ++ A) ++ [y])) : St H ((Γ ++ [y]) ++ A) := by
  have := St.flip h
  rw [List.append_assoc]; exact this
set_option maxHeartbeats 4000000 in
theorem table_Put_spec (hO : St H Γ) (hv : RdC Γ v l) (hl : l.length ≤ 1000) (hver : ∀ c ∈ l, 0 ≤ c.ver) (hk : MadeB Γ K (lBy l)) : wCall P n_table_Put [v] H K := by
  apply table_Put_ok; unfold table_Put
  refine table_transaction_spec hO hv (by omega) ?_
  intro H hO
  by_cases hok : TOk l
  · rw [decide_eq_true hok]
    unfold lBy at hk
    rw [if_pos hok] at hk
    repeat (first | refine opP_i (by first | exact qa | exact qs | exact nilCheck_ptr | exact offPtr_ptr | exact bin_eql | exact bin_neq | exact bin_lss | exact bin_gtr | exact bin_leq | exact bin_geq | exact un_not | exact pick_true | exact pick_false | exact qy | exact qn | exact qi | exact qj) ?_ | refine opW_i (by first | exact lenSl_sl | exact min_w | exact max_w) ?_ | refine wy ?_ | refine wn ?_ | refine wIf_t rfl ?_ | refine wIf_f rfl ?_ | refine cond_yes rfl ?_ | refine cond_no rfl ?_)
    refine opW_i (by rw [hv.1]) ?_
    refine opW_i (cvIU (by omega) (by omega)) ?_
    rw [Int.toNat_natCast]
    refine Fixed_spec (size := 1) (xs := []) hO .nil (by simp) (by omega) (by omega) ?_
    intro H v1 c1 hO h1
    refine opW_i (by rw [hv.1]) ?_
    refine table_Put_L0_ind (fun k l' H' => ∃ (y : Nat) (v' : Value) (cs' : List Value), y ≤ l.length ∧ k = l.length - y ∧ l' = [nilSl, v', v, int l.length, int y] ∧ St H' (Γ ++ outB v' cs') ∧ OwnB v' (leN 1 l.length ++ (l.take y).flatMap cBy) cs') _ _ ?_ l.length _ _ ⟨0, v1, c1, by omega, by omega, rfl, hO, by simpa using h1⟩
    clear hO h1
    rintro k l' H' ⟨y, v', cs', hy, rfl, rfl, hO, hv'⟩
    unfold table_Put_L0
    try simp only [nth_zero, nth_succ]
    repeat (first | refine opP_i (by first | exact qa | exact qs | exact nilCheck_ptr | exact offPtr_ptr | exact bin_eql | exact bin_neq | exact bin_lss | exact bin_gtr | exact bin_leq | exact bin_geq | exact un_not | exact pick_true | exact pick_false | exact qy | exact qn | exact qi | exact qj) ?_ | refine opW_i (by first | exact lenSl_sl | exact min_w | exact max_w) ?_ | refine wy ?_ | refine wn ?_ | refine wIf_t rfl ?_ | refine wIf_f rfl ?_ | refine cond_yes rfl ?_ | refine cond_no rfl ?_)
    refine wIf_dec (fun h2 => ?_) (fun h2 => ?_)
    · rcases hv.2 with rfl | ⟨pv, cp, j, rfl, w, hj⟩
      · simp at h2; omega
      have hyl : y < l.length := by omega
      have e : 0 + ((y : Nat) : Int).toNat * 40 = y * 40 := by rw [Int.toNat_natCast]; omega
      have hcr := hok.2 _ (List.getElem_mem hyl)
      have hvr := hver _ (List.getElem_mem hyl)
      have hlen := cBys_len (l.take y)
      rw [List.length_take, Nat.min_eq_left (by omega)] at hlen
      have hend : leN 1 l.length ++ (l.take (y + 1)).flatMap cBy = leN 1 l.length ++ (l.take y).flatMap cBy ++ cBy l[y] := by rw [take_by hyl, List.append_assoc]
      have hlen' : (leN 1 l.length ++ (l.take y).flatMap cBy).length ≤ 60000 := by rw [List.length_append, leN_len]; omega
      generalize leN 1 l.length ++ (l.take y).flatMap cBy = xs at *
      repeat (first | refine opP_i (by first | exact qa | exact qs | exact nilCheck_ptr | exact offPtr_ptr | exact bin_eql | exact bin_neq | exact bin_lss | exact bin_gtr | exact bin_leq | exact bin_geq | exact un_not | exact pick_true | exact pick_false | exact qy | exact qn | exact qi | exact qj) ?_ | refine opW_i (by first | exact lenSl_sl | exact min_w | exact max_w) ?_ | refine wy ?_ | refine wn ?_ | refine wIf_t rfl ?_ | refine wIf_f rfl ?_ | refine cond_yes rfl ?_ | refine cond_no rfl ?_)
      refine loadAgg_at hO j (at_l hj) (show _ = chC l[y] from ?_) rfl (by omega) ?_
      · rw [e]; exact chs_at l y hyl
      rw [zc58]
      refine new_at hO ?_
      intro b H hO
      generalize l[y] = c at *
      replace hO := St.flip hO
      refine storeAll_at hO (Γ.length + 0) (at_r rfl) rfl rfl rfl ?_
      intro H hO
      replace hO : St H (Γ ++ ((b, ⟨chC c, true⟩) :: outB v' cs')) := hO.set_r
      have hkd : 1 ≤ c.kind ∧ c.kind ≤ 4 := by rcases hcr with h | h | h | h <;> omega
      have fin : ∀ (H' : Heap) (v'' : Value) (cs'' : List Value) (A : List (Nat × Blk)), St H' ((Γ ++ A) ++ outB v'' cs'') → OwnB v'' (xs ++ cBy c) cs'' → ∃ k', k' < l.length - y ∧ ∃ (z : Nat) (v' : Value) (cs' : List Value), z ≤ l.length ∧ k' = l.length - z ∧ [nilSl, v'', sl pv 0 l.length cp, int l.length, int ((y : Int) + 1)] = [nilSl, v', sl pv 0 l.length cp, int l.length, int z] ∧ St H' (Γ ++ outB v' cs') ∧ OwnB v' (leN 1 l.length ++ (l.take z).flatMap cBy) cs' := fun H' v'' cs'' A hO' h'' => ⟨_, by omega, y + 1, v'', cs'', by omega, rfl, rfl, St.mid hO', by rw [hend]; exact h''⟩
      rw [show cBy c = leN 1 c.kind.toNat ++ (if c.kind = 1 then leN 1 c.slot.toNat ++ sBy' c.to else if c.kind = 2 then leN 1 c.n.toNat else if c.kind = 3 then leN 1 (c.n + 1).toNat else leN 8 c.ver.toNat) from rfl] at fin
      repeat (first | refine opP_i (by first | exact qa | exact qs | exact nilCheck_ptr | exact offPtr_ptr | exact bin_eql | exact bin_neq | exact bin_lss | exact bin_gtr | exact bin_leq | exact bin_geq | exact un_not | exact pick_true | exact pick_false | exact qy | exact qn | exact qi | exact qj) ?_ | refine opW_i (by first | exact lenSl_sl | exact min_w | exact max_w) ?_ | refine wy ?_ | refine wn ?_ | refine wIf_t rfl ?_ | refine wIf_f rfl ?_ | refine cond_yes rfl ?_ | refine cond_no rfl ?_ | refine ld hO 0 rfl rfl ?_ | refine ld hO 1 rfl rfl ?_ | refine ld hO 2 rfl rfl ?_ | refine ld hO 3 rfl rfl ?_ | refine ld hO 4 rfl rfl ?_ | refine ld hO 5 rfl rfl ?_)
      refine opW_i (cvIU (by omega) (by omega)) ?_
      refine Fixed_spec (size := 1) hO hv'.rd.tl (by omega) (by omega) (by omega) ?_
      intro H v2 c2 hO h2
      replace hO := hO.tail1
      repeat (first | refine opP_i (by first | exact qa | exact qs | exact nilCheck_ptr | exact offPtr_ptr | exact bin_eql | exact bin_neq | exact bin_lss | exact bin_gtr | exact bin_leq | exact bin_geq | exact un_not | exact pick_true | exact pick_false | exact qy | exact qn | exact qi | exact qj) ?_ | refine opW_i (by first | exact lenSl_sl | exact min_w | exact max_w) ?_ | refine wy ?_ | refine wn ?_ | refine wIf_t rfl ?_ | refine wIf_f rfl ?_ | refine cond_yes rfl ?_ | refine cond_no rfl ?_ | refine ld hO 0 rfl rfl ?_ | refine ld hO 1 rfl rfl ?_ | refine ld hO 2 rfl rfl ?_ | refine ld hO 3 rfl rfl ?_ | refine ld hO 4 rfl rfl ?_ | refine ld hO 5 rfl rfl ?_)
      unfold CRight at hcr
      by_cases k1 : c.kind = 1
      · rw [if_pos k1] at fin
        have hi : Ix c.slot ∧ SRight c.to := by rcases hcr with h | h | h | h; exact h.2.1; all_goals omega
        have hib := hi.1.bd
        repeat (first | refine opP_i (by first | exact qa | exact qs | exact nilCheck_ptr | exact offPtr_ptr | exact bin_eql | exact bin_neq | exact bin_lss | exact bin_gtr | exact bin_leq | exact bin_geq | exact un_not | exact pick_true | exact pick_false | exact qy | exact qn | exact qi | exact qj) ?_ | refine opW_i (by first | exact lenSl_sl | exact min_w | exact max_w) ?_ | refine wy ?_ | refine wn ?_ | refine wIf_t rfl ?_ | refine wIf_f rfl ?_ | refine cond_yes rfl ?_ | refine cond_no rfl ?_ | refine ld hO 0 rfl rfl ?_ | refine ld hO 1 rfl rfl ?_ | refine ld hO 2 rfl rfl ?_ | refine ld hO 3 rfl rfl ?_ | refine ld hO 4 rfl rfl ?_ | refine ld hO 5 rfl rfl ?_)
        refine opW_i (cvIU (by omega) (by omega)) ?_
        refine Fixed_spec (size := 1) hO h2.rd.tl (by simp [leN_len]; omega) (by omega) (by omega) ?_
        intro H2 v3 c3 hO2 h3
        replace hO2 := hO2.tail1
        repeat (first | refine opP_i (by first | exact qa | exact qs | exact nilCheck_ptr | exact offPtr_ptr | exact bin_eql | exact bin_neq | exact bin_lss | exact bin_gtr | exact bin_leq | exact bin_geq | exact un_not | exact pick_true | exact pick_false | exact qy | exact qn | exact qi | exact qj) ?_ | refine opW_i (by first | exact lenSl_sl | exact min_w | exact max_w) ?_ | refine wy ?_ | refine wn ?_ | refine wIf_t rfl ?_ | refine wIf_f rfl ?_ | refine cond_yes rfl ?_ | refine cond_no rfl ?_)
        refine loadAgg_at hO2 (Γ.length + 0) (at_r rfl) (show _ = slC c.to from rfl) rfl (by omega) ?_
        refine ⟨same_at hO (Γ.length + 0) (at_r rfl) hO2 (Γ.length + 0) (at_r rfl) rfl, ?_⟩
        clear hO
        refine slot_Bytes_spec hO2 ?_
        have hl5 := sBy'_len (s := c.to)
        intro H v4 c4 hO h4
        refine Raw_two (B := []) hO h3.rd h4 (by simp [leN_len]; omega) ?_
        intro H v5 c5 hO h5
        repeat (first | refine opP_i (by first | exact qa | exact qs | exact nilCheck_ptr | exact offPtr_ptr | exact bin_eql | exact bin_neq | exact bin_lss | exact bin_gtr | exact bin_leq | exact bin_geq | exact un_not | exact pick_true | exact pick_false | exact qy | exact qn | exact qi | exact qj) ?_ | refine opW_i (by first | exact lenSl_sl | exact min_w | exact max_w) ?_ | refine wy ?_ | refine wn ?_ | refine wIf_t rfl ?_ | refine wIf_f rfl ?_ | refine cond_yes rfl ?_ | refine cond_no rfl ?_)
        refine fin _ v5 c5 [(b, ⟨chC c, true⟩)] (by rw [List.append_assoc]; exact hO) ?_
        simpa using h5
      rw [if_neg k1] at fin
      repeat (first | refine opP_i (by first | exact qa | exact qs | exact nilCheck_ptr | exact offPtr_ptr | exact bin_eql | exact bin_neq | exact bin_lss | exact bin_gtr | exact bin_leq | exact bin_geq | exact un_not | exact pick_true | exact pick_false | exact qy | exact qn | exact qi | exact qj) ?_ | refine opW_i (by first | exact lenSl_sl | exact min_w | exact max_w) ?_ | refine wy ?_ | refine wn ?_ | refine wIf_t rfl ?_ | refine wIf_f rfl ?_ | refine cond_yes rfl ?_ | refine cond_no rfl ?_ | refine ld hO 0 rfl rfl ?_ | refine ld hO 1 rfl rfl ?_ | refine ld hO 2 rfl rfl ?_ | refine ld hO 3 rfl rfl ?_ | refine ld hO 4 rfl rfl ?_ | refine ld hO 5 rfl rfl ?_)
      by_cases k2 : c.kind = 2
      · rw [if_pos k2] at fin
        have hi : Ix c.n := by rcases hcr with h | h | h | h; omega; exact h.2.1; all_goals omega
        have hib := hi.bd
        repeat (first | refine opP_i (by first | exact qa | exact qs | exact nilCheck_ptr | exact offPtr_ptr | exact bin_eql | exact bin_neq | exact bin_lss | exact bin_gtr | exact bin_leq | exact bin_geq | exact un_not | exact pick_true | exact pick_false | exact qy | exact qn | exact qi | exact qj) ?_ | refine opW_i (by first | exact lenSl_sl | exact min_w | exact max_w) ?_ | refine wy ?_ | refine wn ?_ | refine wIf_t rfl ?_ | refine wIf_f rfl ?_ | refine cond_yes rfl ?_ | refine cond_no rfl ?_ | refine ld hO 0 rfl rfl ?_ | refine ld hO 1 rfl rfl ?_ | refine ld hO 2 rfl rfl ?_ | refine ld hO 3 rfl rfl ?_ | refine ld hO 4 rfl rfl ?_ | refine ld hO 5 rfl rfl ?_)
        refine opW_i (cvIU (by omega) (by omega)) ?_
        refine Fixed_spec (size := 1) hO h2.rd.tl (by simp [leN_len]; omega) (by omega) (by omega) ?_
        intro H v3 c3 hO h3
        repeat (first | refine opP_i (by first | exact qa | exact qs | exact nilCheck_ptr | exact offPtr_ptr | exact bin_eql | exact bin_neq | exact bin_lss | exact bin_gtr | exact bin_leq | exact bin_geq | exact un_not | exact pick_true | exact pick_false | exact qy | exact qn | exact qi | exact qj) ?_ | refine opW_i (by first | exact lenSl_sl | exact min_w | exact max_w) ?_ | refine wy ?_ | refine wn ?_ | refine wIf_t rfl ?_ | refine wIf_f rfl ?_ | refine cond_yes rfl ?_ | refine cond_no rfl ?_)
        refine fin _ v3 c3 _ hO ?_
        simpa using h3
      rw [if_neg k2] at fin
      repeat (first | refine opP_i (by first | exact qa | exact qs | exact nilCheck_ptr | exact offPtr_ptr | exact bin_eql | exact bin_neq | exact bin_lss | exact bin_gtr | exact bin_leq | exact bin_geq | exact un_not | exact pick_true | exact pick_false | exact qy | exact qn | exact qi | exact qj) ?_ | refine opW_i (by first | exact lenSl_sl | exact min_w | exact max_w) ?_ | refine wy ?_ | refine wn ?_ | refine wIf_t rfl ?_ | refine wIf_f rfl ?_ | refine cond_yes rfl ?_ | refine cond_no rfl ?_ | refine ld hO 0 rfl rfl ?_ | refine ld hO 1 rfl rfl ?_ | refine ld hO 2 rfl rfl ?_ | refine ld hO 3 rfl rfl ?_ | refine ld hO 4 rfl rfl ?_ | refine ld hO 5 rfl rfl ?_)
      by_cases k3 : c.kind = 3
      · rw [if_pos k3] at fin
        have hi : -1 ≤ c.n ∧ c.n ≤ 1 := by rcases hcr with h | h | h | h; omega; omega; (rcases h.2.1 with h | h; omega; have := h.bd; omega); omega
        repeat (first | refine opP_i (by first | exact qa | exact qs | exact nilCheck_ptr | exact offPtr_ptr | exact bin_eql | exact bin_neq | exact bin_lss | exact bin_gtr | exact bin_leq | exact bin_geq | exact un_not | exact pick_true | exact pick_false | exact qy | exact qn | exact qi | exact qj) ?_ | refine opW_i (by first | exact lenSl_sl | exact min_w | exact max_w) ?_ | refine wy ?_ | refine wn ?_ | refine wIf_t rfl ?_ | refine wIf_f rfl ?_ | refine cond_yes rfl ?_ | refine cond_no rfl ?_ | refine ld hO 0 rfl rfl ?_ | refine ld hO 1 rfl rfl ?_ | refine ld hO 2 rfl rfl ?_ | refine ld hO 3 rfl rfl ?_ | refine ld hO 4 rfl rfl ?_ | refine ld hO 5 rfl rfl ?_)
        rw [show c.n - -1 = c.n + 1 by omega]
        refine opW_i (cvIU (by omega) (by omega)) ?_
        refine Fixed_spec (size := 1) hO h2.rd.tl (by simp [leN_len]; omega) (by omega) (by omega) ?_
        intro H v3 c3 hO h3
        repeat (first | refine opP_i (by first | exact qa | exact qs | exact nilCheck_ptr | exact offPtr_ptr | exact bin_eql | exact bin_neq | exact bin_lss | exact bin_gtr | exact bin_leq | exact bin_geq | exact un_not | exact pick_true | exact pick_false | exact qy | exact qn | exact qi | exact qj) ?_ | refine opW_i (by first | exact lenSl_sl | exact min_w | exact max_w) ?_ | refine wy ?_ | refine wn ?_ | refine wIf_t rfl ?_ | refine wIf_f rfl ?_ | refine cond_yes rfl ?_ | refine cond_no rfl ?_)
        refine fin _ v3 c3 _ hO ?_
        simpa using h3
      rw [if_neg k3] at fin
      have k4 : c.kind = 4 := by omega
      have hi : c.ver ≤ 281474976710656 := by rcases hcr with h | h | h | h; omega; omega; omega; exact h.2.1
      repeat (first | refine opP_i (by first | exact qa | exact qs | exact nilCheck_ptr | exact offPtr_ptr | exact bin_eql | exact bin_neq | exact bin_lss | exact bin_gtr | exact bin_leq | exact bin_geq | exact un_not | exact pick_true | exact pick_false | exact qy | exact qn | exact qi | exact qj) ?_ | refine opW_i (by first | exact lenSl_sl | exact min_w | exact max_w) ?_ | refine wy ?_ | refine wn ?_ | refine wIf_t rfl ?_ | refine wIf_f rfl ?_ | refine cond_yes rfl ?_ | refine cond_no rfl ?_ | refine ld hO 0 rfl rfl ?_ | refine ld hO 1 rfl rfl ?_ | refine ld hO 2 rfl rfl ?_ | refine ld hO 3 rfl rfl ?_ | refine ld hO 4 rfl rfl ?_ | refine ld hO 5 rfl rfl ?_)
      rw [uint_of hvr]
      refine Fixed_spec (size := 8) hO h2.rd.tl (by simp [leN_len]; omega) (by omega) (by omega) ?_
      intro H v3 c3 hO h3
      repeat (first | refine opP_i (by first | exact qa | exact qs | exact nilCheck_ptr | exact offPtr_ptr | exact bin_eql | exact bin_neq | exact bin_lss | exact bin_gtr | exact bin_leq | exact bin_geq | exact un_not | exact pick_true | exact pick_false | exact qy | exact qn | exact qi | exact qj) ?_ | refine opW_i (by first | exact lenSl_sl | exact min_w | exact max_w) ?_ | refine wy ?_ | refine wn ?_ | refine wIf_t rfl ?_ | refine wIf_f rfl ?_ | refine cond_yes rfl ?_ | refine cond_no rfl ?_)
      refine fin _ v3 c3 _ hO ?_
      simpa using h3
    · have e : y = l.length := by omega
      subst e
      rw [List.take_of_length_le (Nat.le_refl _)] at hv'
      repeat (first | refine opP_i (by first | exact qa | exact qs | exact nilCheck_ptr | exact offPtr_ptr | exact bin_eql | exact bin_neq | exact bin_lss | exact bin_gtr | exact bin_leq | exact bin_geq | exact un_not | exact pick_true | exact pick_false | exact qy | exact qn | exact qi | exact qj) ?_ | refine opW_i (by first | exact lenSl_sl | exact min_w | exact max_w) ?_ | refine wy ?_ | refine wn ?_ | refine wIf_t rfl ?_ | refine wIf_f rfl ?_ | refine cond_yes rfl ?_ | refine cond_no rfl ?_)
      exact hk _ _ _ hO hv'
  · rw [decide_eq_false hok]
    unfold lBy at hk
    rw [if_neg hok] at hk
    repeat (first | refine opP_i (by first | exact qa | exact qs | exact nilCheck_ptr | exact offPtr_ptr | exact bin_eql | exact bin_neq | exact bin_lss | exact bin_gtr | exact bin_leq | exact bin_geq | exact un_not | exact pick_true | exact pick_false | exact qy | exact qn | exact qi | exact qj) ?_ | refine opW_i (by first | exact lenSl_sl | exact min_w | exact max_w) ?_ | refine wy ?_ | refine wn ?_ | refine wIf_t rfl ?_ | refine wIf_f rfl ?_ | refine cond_yes rfl ?_ | refine cond_no rfl ?_)
    exact hk.none hO
set_option maxHeartbeats 4000000 in
theorem ref11_Put_spec (hO : St H Γ) (hv : RdC Γ v l) (hl : l.length ≤ 1000) (hver : ∀ c ∈ l, 0 ≤ c.ver) (hk : MadeB Γ K (lBy l)) : wCall P n_ref11_Put [v] H K := by
  apply ref11_Put_ok; unfold ref11_Put
  refine newSl_at hO (bs46_0 _) ?_
  intro r H hO
  refine ref11_All_spec hO hv.app (by omega) ?_
  intro H hO
  have h0 : OwnB (sl r 0 0 3) [] [] := .inr ⟨r, .inr ⟨rfl, rfl⟩, rfl, Nat.zero_le _, rfl⟩
  have hO : St H (Γ ++ outB (sl r 0 0 3) []) := hO
  by_cases hok : TOk l
  · rw [decide_eq_true hok]
    unfold lBy at hk
    rw [if_pos hok] at hk
    have hl8 := hok.1
    repeat (first | refine opP_i (by first | exact qa | exact qs | exact nilCheck_ptr | exact offPtr_ptr | exact bin_eql | exact bin_neq | exact bin_lss | exact bin_gtr | exact bin_leq | exact bin_geq | exact un_not | exact pick_true | exact pick_false | exact qy | exact qn | exact qi | exact qj) ?_ | refine opW_i (by first | exact lenSl_sl | exact min_w | exact max_w) ?_ | refine wy ?_ | refine wn ?_ | refine wIf_t rfl ?_ | refine wIf_f rfl ?_ | refine cond_yes rfl ?_ | refine cond_no rfl ?_)
    refine opW_i (by rw [hv.1]) ?_
    refine opW_i (cvI8 (by omega) (by omega)) ?_
    rw [Int.toNat_natCast]
    refine newSl_at hO (bs46_1 _ _ _) ?_
    intro q H hO
    refine append_new (ys := [((l.length : Nat) : Int)]) hO h0 (by simp) rfl (.inr rfl) ?_
    rw [List.nil_append, ← leN_one (show l.length < 256 by omega)]
    intro H v1 c1 hO h1
    refine opW_i (by rw [hv.1]) ?_
    refine ref11_Put_L0_ind (fun k l' H' => ∃ (y : Nat) (v' : Value) (cs' : List Value), y ≤ l.length ∧ k = l.length - y ∧ l' = [nilSl, v', v, int l.length, int y] ∧ St H' (Γ ++ outB v' cs') ∧ OwnB v' (leN 1 l.length ++ (l.take y).flatMap cBy) cs') _ _ ?_ l.length _ _ ⟨0, v1, c1, by omega, by omega, rfl, hO, by simpa using h1⟩
    clear hO h1 h0
    rintro k l' H' ⟨y, v', cs', hy, rfl, rfl, hO, hv'⟩
    unfold ref11_Put_L0
    try simp only [nth_zero, nth_succ]
    repeat (first | refine opP_i (by first | exact qa | exact qs | exact nilCheck_ptr | exact offPtr_ptr | exact bin_eql | exact bin_neq | exact bin_lss | exact bin_gtr | exact bin_leq | exact bin_geq | exact un_not | exact pick_true | exact pick_false | exact qy | exact qn | exact qi | exact qj) ?_ | refine opW_i (by first | exact lenSl_sl | exact min_w | exact max_w) ?_ | refine wy ?_ | refine wn ?_ | refine wIf_t rfl ?_ | refine wIf_f rfl ?_ | refine cond_yes rfl ?_ | refine cond_no rfl ?_)
    refine wIf_dec (fun h2 => ?_) (fun h2 => ?_)
    · rcases hv.2 with rfl | ⟨pv, cp, j, rfl, w, hj⟩
      · simp at h2; omega
      have hyl : y < l.length := by omega
      have e : 0 + ((y : Nat) : Int).toNat * 40 = y * 40 := by rw [Int.toNat_natCast]; omega
      have hcr := hok.2 _ (List.getElem_mem hyl)
      have hvr := hver _ (List.getElem_mem hyl)
      have hlen := cBys_len (l.take y)
      rw [List.length_take, Nat.min_eq_left (by omega)] at hlen
      have hend : leN 1 l.length ++ (l.take (y + 1)).flatMap cBy = leN 1 l.length ++ (l.take y).flatMap cBy ++ cBy l[y] := by rw [take_by hyl, List.append_assoc]
      have hlen' : (leN 1 l.length ++ (l.take y).flatMap cBy).length ≤ 60000 := by rw [List.length_append, leN_len]; omega
      generalize leN 1 l.length ++ (l.take y).flatMap cBy = xs at *
      repeat (first | refine opP_i (by first | exact qa | exact qs | exact nilCheck_ptr | exact offPtr_ptr | exact bin_eql | exact bin_neq | exact bin_lss | exact bin_gtr | exact bin_leq | exact bin_geq | exact un_not | exact pick_true | exact pick_false | exact qy | exact qn | exact qi | exact qj) ?_ | refine opW_i (by first | exact lenSl_sl | exact min_w | exact max_w) ?_ | refine wy ?_ | refine wn ?_ | refine wIf_t rfl ?_ | refine wIf_f rfl ?_ | refine cond_yes rfl ?_ | refine cond_no rfl ?_)
      refine loadAgg_at hO j (at_l hj) (show _ = chC l[y] from ?_) rfl (by omega) ?_
      · rw [e]; exact chs_at l y hyl
      rw [zc58]
      refine new_at hO ?_
      intro b H hO
      generalize l[y] = c at *
      replace hO := St.flip hO
      refine storeAll_at hO (Γ.length + 0) (at_r rfl) rfl rfl rfl ?_
      intro H hO
      replace hO : St H (Γ ++ ((b, ⟨chC c, true⟩) :: outB v' cs')) := hO.set_r
      replace hO : St H ((Γ ++ [(b, ⟨chC c, true⟩)]) ++ outB v' cs') := by rw [List.append_assoc]; exact hO
      have hkd : 1 ≤ c.kind ∧ c.kind ≤ 4 := by rcases hcr with h | h | h | h <;> omega
      have fin : ∀ (H' : Heap) (v'' : Value) (cs'' : List Value) (A : List (Nat × Blk)), St H' ((Γ ++ A) ++ outB v'' cs'') → OwnB v'' (xs ++ cBy c) cs'' → ∃ k', k' < l.length - y ∧ ∃ (z : Nat) (v' : Value) (cs' : List Value), z ≤ l.length ∧ k' = l.length - z ∧ [nilSl, v'', sl pv 0 l.length cp, int l.length, int ((y : Int) + 1)] = [nilSl, v', sl pv 0 l.length cp, int l.length, int z] ∧ St H' (Γ ++ outB v' cs') ∧ OwnB v' (leN 1 l.length ++ (l.take z).flatMap cBy) cs' := fun H' v'' cs'' A hO' h'' => ⟨_, by omega, y + 1, v'', cs'', by omega, rfl, rfl, St.mid hO', by rw [hend]; exact h''⟩
      rw [show cBy c = leN 1 c.kind.toNat ++ (if c.kind = 1 then leN 1 c.slot.toNat ++ sBy' c.to else if c.kind = 2 then leN 1 c.n.toNat else if c.kind = 3 then leN 1 (c.n + 1).toNat else leN 8 c.ver.toNat) from rfl] at fin
      rw [leN_one (show c.kind.toNat < 256 by omega)] at fin
      repeat (first | refine opP_i (by first | exact qa | exact qs | exact nilCheck_ptr | exact offPtr_ptr | exact bin_eql | exact bin_neq | exact bin_lss | exact bin_gtr | exact bin_leq | exact bin_geq | exact un_not | exact pick_true | exact pick_false | exact qy | exact qn | exact qi | exact qj) ?_ | refine opW_i (by first | exact lenSl_sl | exact min_w | exact max_w) ?_ | refine wy ?_ | refine wn ?_ | refine wIf_t rfl ?_ | refine wIf_f rfl ?_ | refine cond_yes rfl ?_ | refine cond_no rfl ?_)
      refine load_at hO (Γ.length + 0) (at_l (at_r rfl)) rfl ?_
      refine opW_i (cvI8 (by omega) (by omega)) ?_
      refine newSl_at hO (bs46_1 _ _ _) ?_
      intro q H hO
      refine append_new (ys := [((c.kind.toNat : Nat) : Int)]) hO hv' (by simp; omega) rfl (.inr rfl) ?_
      intro H v2 c2 hO h2
      repeat (first | refine opP_i (by first | exact qa | exact qs | exact nilCheck_ptr | exact offPtr_ptr | exact bin_eql | exact bin_neq | exact bin_lss | exact bin_gtr | exact bin_leq | exact bin_geq | exact un_not | exact pick_true | exact pick_false | exact qy | exact qn | exact qi | exact qj) ?_ | refine opW_i (by first | exact lenSl_sl | exact min_w | exact max_w) ?_ | refine wy ?_ | refine wn ?_ | refine wIf_t rfl ?_ | refine wIf_f rfl ?_ | refine cond_yes rfl ?_ | refine cond_no rfl ?_)
      refine load_at hO (Γ.length + 0) (at_l (at_r rfl)) rfl ?_
      repeat (first | refine opP_i (by first | exact qa | exact qs | exact nilCheck_ptr | exact offPtr_ptr | exact bin_eql | exact bin_neq | exact bin_lss | exact bin_gtr | exact bin_leq | exact bin_geq | exact un_not | exact pick_true | exact pick_false | exact qy | exact qn | exact qi | exact qj) ?_ | refine opW_i (by first | exact lenSl_sl | exact min_w | exact max_w) ?_ | refine wy ?_ | refine wn ?_ | refine wIf_t rfl ?_ | refine wIf_f rfl ?_ | refine cond_yes rfl ?_ | refine cond_no rfl ?_)
      unfold CRight at hcr
      by_cases k1 : c.kind = 1
      · rw [if_pos k1] at fin
        have hi : Ix c.slot ∧ SRight c.to := by rcases hcr with h | h | h | h; exact h.2.1; all_goals omega
        have hib := hi.1.bd
        rw [leN_one (show c.slot.toNat < 256 by omega)] at fin
        repeat (first | refine opP_i (by first | exact qa | exact qs | exact nilCheck_ptr | exact offPtr_ptr | exact bin_eql | exact bin_neq | exact bin_lss | exact bin_gtr | exact bin_leq | exact bin_geq | exact un_not | exact pick_true | exact pick_false | exact qy | exact qn | exact qi | exact qj) ?_ | refine opW_i (by first | exact lenSl_sl | exact min_w | exact max_w) ?_ | refine wy ?_ | refine wn ?_ | refine wIf_t rfl ?_ | refine wIf_f rfl ?_ | refine cond_yes rfl ?_ | refine cond_no rfl ?_)
        refine load_at hO (Γ.length + 0) (at_l (at_r rfl)) rfl ?_
        refine opW_i (cvI8 (by omega) (by omega)) ?_
        refine newSl_at hO (bs46_1 _ _ _) ?_
        intro q H hO
        refine append_new (ys := [((c.slot.toNat : Nat) : Int)]) hO h2 (by simp; omega) rfl (.inr rfl) ?_
        intro H v3 c3 hO h3
        repeat (first | refine opP_i (by first | exact qa | exact qs | exact nilCheck_ptr | exact offPtr_ptr | exact bin_eql | exact bin_neq | exact bin_lss | exact bin_gtr | exact bin_leq | exact bin_geq | exact un_not | exact pick_true | exact pick_false | exact qy | exact qn | exact qi | exact qj) ?_ | refine opW_i (by first | exact lenSl_sl | exact min_w | exact max_w) ?_ | refine wy ?_ | refine wn ?_ | refine wIf_t rfl ?_ | refine wIf_f rfl ?_ | refine cond_yes rfl ?_ | refine cond_no rfl ?_)
        refine loadAgg_at hO (Γ.length + 0) (at_l (at_r rfl)) (show _ = slC c.to from rfl) rfl (by omega) ?_
        refine ref10_Bytes_spec hO ?_
        have hl5 := sBy'_len (s := c.to)
        intro H v4 c4 hO h4
        refine append_own2 hO h3 h4 (by simp; omega) ?_
        intro H v5 c5 hO h5
        repeat (first | refine opP_i (by first | exact qa | exact qs | exact nilCheck_ptr | exact offPtr_ptr | exact bin_eql | exact bin_neq | exact bin_lss | exact bin_gtr | exact bin_leq | exact bin_geq | exact un_not | exact pick_true | exact pick_false | exact qy | exact qn | exact qi | exact qj) ?_ | refine opW_i (by first | exact lenSl_sl | exact min_w | exact max_w) ?_ | refine wy ?_ | refine wn ?_ | refine wIf_t rfl ?_ | refine wIf_f rfl ?_ | refine cond_yes rfl ?_ | refine cond_no rfl ?_)
        refine fin _ v5 c5 _ hO ?_
        simpa using h5
      rw [if_neg k1] at fin
      repeat (first | refine opP_i (by first | exact qa | exact qs | exact nilCheck_ptr | exact offPtr_ptr | exact bin_eql | exact bin_neq | exact bin_lss | exact bin_gtr | exact bin_leq | exact bin_geq | exact un_not | exact pick_true | exact pick_false | exact qy | exact qn | exact qi | exact qj) ?_ | refine opW_i (by first | exact lenSl_sl | exact min_w | exact max_w) ?_ | refine wy ?_ | refine wn ?_ | refine wIf_t rfl ?_ | refine wIf_f rfl ?_ | refine cond_yes rfl ?_ | refine cond_no rfl ?_)
      by_cases k2 : c.kind = 2
      · rw [if_pos k2] at fin
        have hi : Ix c.n := by rcases hcr with h | h | h | h; omega; exact h.2.1; all_goals omega
        have hib := hi.bd
        rw [leN_one (show c.n.toNat < 256 by omega)] at fin
        repeat (first | refine opP_i (by first | exact qa | exact qs | exact nilCheck_ptr | exact offPtr_ptr | exact bin_eql | exact bin_neq | exact bin_lss | exact bin_gtr | exact bin_leq | exact bin_geq | exact un_not | exact pick_true | exact pick_false | exact qy | exact qn | exact qi | exact qj) ?_ | refine opW_i (by first | exact lenSl_sl | exact min_w | exact max_w) ?_ | refine wy ?_ | refine wn ?_ | refine wIf_t rfl ?_ | refine wIf_f rfl ?_ | refine cond_yes rfl ?_ | refine cond_no rfl ?_)
        refine load_at hO (Γ.length + 0) (at_l (at_r rfl)) rfl ?_
        refine opW_i (cvI8 (by omega) (by omega)) ?_
        refine newSl_at hO (bs46_1 _ _ _) ?_
        intro q H hO
        refine append_new (ys := [((c.n.toNat : Nat) : Int)]) hO h2 (by simp; omega) rfl (.inr rfl) ?_
        intro H v3 c3 hO h3
        repeat (first | refine opP_i (by first | exact qa | exact qs | exact nilCheck_ptr | exact offPtr_ptr | exact bin_eql | exact bin_neq | exact bin_lss | exact bin_gtr | exact bin_leq | exact bin_geq | exact un_not | exact pick_true | exact pick_false | exact qy | exact qn | exact qi | exact qj) ?_ | refine opW_i (by first | exact lenSl_sl | exact min_w | exact max_w) ?_ | refine wy ?_ | refine wn ?_ | refine wIf_t rfl ?_ | refine wIf_f rfl ?_ | refine cond_yes rfl ?_ | refine cond_no rfl ?_)
        refine fin _ v3 c3 _ hO ?_
        simpa using h3
      rw [if_neg k2] at fin
      repeat (first | refine opP_i (by first | exact qa | exact qs | exact nilCheck_ptr | exact offPtr_ptr | exact bin_eql | exact bin_neq | exact bin_lss | exact bin_gtr | exact bin_leq | exact bin_geq | exact un_not | exact pick_true | exact pick_false | exact qy | exact qn | exact qi | exact qj) ?_ | refine opW_i (by first | exact lenSl_sl | exact min_w | exact max_w) ?_ | refine wy ?_ | refine wn ?_ | refine wIf_t rfl ?_ | refine wIf_f rfl ?_ | refine cond_yes rfl ?_ | refine cond_no rfl ?_)
      by_cases k3 : c.kind = 3
      · rw [if_pos k3] at fin
        have hi : -1 ≤ c.n ∧ c.n ≤ 1 := by rcases hcr with h | h | h | h; omega; omega; (rcases h.2.1 with h | h; omega; have := h.bd; omega); omega
        rw [leN_one (show (c.n + 1).toNat < 256 by omega)] at fin
        repeat (first | refine opP_i (by first | exact qa | exact qs | exact nilCheck_ptr | exact offPtr_ptr | exact bin_eql | exact bin_neq | exact bin_lss | exact bin_gtr | exact bin_leq | exact bin_geq | exact un_not | exact pick_true | exact pick_false | exact qy | exact qn | exact qi | exact qj) ?_ | refine opW_i (by first | exact lenSl_sl | exact min_w | exact max_w) ?_ | refine wy ?_ | refine wn ?_ | refine wIf_t rfl ?_ | refine wIf_f rfl ?_ | refine cond_yes rfl ?_ | refine cond_no rfl ?_)
        refine load_at hO (Γ.length + 0) (at_l (at_r rfl)) rfl ?_
        repeat (first | refine opP_i (by first | exact qa | exact qs | exact nilCheck_ptr | exact offPtr_ptr | exact bin_eql | exact bin_neq | exact bin_lss | exact bin_gtr | exact bin_leq | exact bin_geq | exact un_not | exact pick_true | exact pick_false | exact qy | exact qn | exact qi | exact qj) ?_ | refine opW_i (by first | exact lenSl_sl | exact min_w | exact max_w) ?_ | refine wy ?_ | refine wn ?_ | refine wIf_t rfl ?_ | refine wIf_f rfl ?_ | refine cond_yes rfl ?_ | refine cond_no rfl ?_)
        refine opW_i (cvI8 (by omega) (by omega)) ?_
        refine newSl_at hO (bs46_1 _ _ _) ?_
        intro q H hO
        refine append_new (ys := [(((c.n + 1).toNat : Nat) : Int)]) hO h2 (by simp; omega) rfl (.inr rfl) ?_
        intro H v3 c3 hO h3
        repeat (first | refine opP_i (by first | exact qa | exact qs | exact nilCheck_ptr | exact offPtr_ptr | exact bin_eql | exact bin_neq | exact bin_lss | exact bin_gtr | exact bin_leq | exact bin_geq | exact un_not | exact pick_true | exact pick_false | exact qy | exact qn | exact qi | exact qj) ?_ | refine opW_i (by first | exact lenSl_sl | exact min_w | exact max_w) ?_ | refine wy ?_ | refine wn ?_ | refine wIf_t rfl ?_ | refine wIf_f rfl ?_ | refine cond_yes rfl ?_ | refine cond_no rfl ?_)
        refine fin _ v3 c3 _ hO ?_
        simpa using h3
      rw [if_neg k3] at fin
      have k4 : c.kind = 4 := by omega
      have hi : c.ver ≤ 281474976710656 := by rcases hcr with h | h | h | h; omega; omega; omega; exact h.2.1
      repeat (first | refine opP_i (by first | exact qa | exact qs | exact nilCheck_ptr | exact offPtr_ptr | exact bin_eql | exact bin_neq | exact bin_lss | exact bin_gtr | exact bin_leq | exact bin_geq | exact un_not | exact pick_true | exact pick_false | exact qy | exact qn | exact qi | exact qj) ?_ | refine opW_i (by first | exact lenSl_sl | exact min_w | exact max_w) ?_ | refine wy ?_ | refine wn ?_ | refine wIf_t rfl ?_ | refine wIf_f rfl ?_ | refine cond_yes rfl ?_ | refine cond_no rfl ?_)
      refine load_at hO (Γ.length + 0) (at_l (at_r rfl)) rfl ?_
      rw [uint_of hvr]
      refine ref05_Fixed_spec (size := 8) hO (by omega) (by omega) ?_
      intro H v3 c3 hO h3
      refine append_own2 hO h2 h3 (by simp [leN_len]; omega) ?_
      intro H v4 c4 hO h4
      repeat (first | refine opP_i (by first | exact qa | exact qs | exact nilCheck_ptr | exact offPtr_ptr | exact bin_eql | exact bin_neq | exact bin_lss | exact bin_gtr | exact bin_leq | exact bin_geq | exact un_not | exact pick_true | exact pick_false | exact qy | exact qn | exact qi | exact qj) ?_ | refine opW_i (by first | exact lenSl_sl | exact min_w | exact max_w) ?_ | refine wy ?_ | refine wn ?_ | refine wIf_t rfl ?_ | refine wIf_f rfl ?_ | refine cond_yes rfl ?_ | refine cond_no rfl ?_)
      refine fin _ v4 c4 _ hO ?_
      simpa using h4
    · have e : y = l.length := by omega
      subst e
      rw [List.take_of_length_le (Nat.le_refl _)] at hv'
      repeat (first | refine opP_i (by first | exact qa | exact qs | exact nilCheck_ptr | exact offPtr_ptr | exact bin_eql | exact bin_neq | exact bin_lss | exact bin_gtr | exact bin_leq | exact bin_geq | exact un_not | exact pick_true | exact pick_false | exact qy | exact qn | exact qi | exact qj) ?_ | refine opW_i (by first | exact lenSl_sl | exact min_w | exact max_w) ?_ | refine wy ?_ | refine wn ?_ | refine wIf_t rfl ?_ | refine wIf_f rfl ?_ | refine cond_yes rfl ?_ | refine cond_no rfl ?_)
      exact hk _ _ _ hO hv'
  · rw [decide_eq_false hok]
    unfold lBy at hk
    rw [if_neg hok] at hk
    repeat (first | refine opP_i (by first | exact qa | exact qs | exact nilCheck_ptr | exact offPtr_ptr | exact bin_eql | exact bin_neq | exact bin_lss | exact bin_gtr | exact bin_leq | exact bin_geq | exact un_not | exact pick_true | exact pick_false | exact qy | exact qn | exact qi | exact qj) ?_ | refine opW_i (by first | exact lenSl_sl | exact min_w | exact max_w) ?_ | refine wy ?_ | refine wn ?_ | refine wIf_t rfl ?_ | refine wIf_f rfl ?_ | refine cond_yes rfl ?_ | refine cond_no rfl ?_)
    exact hk _ _ _ hO h0
end
end T
set_option linter.unusedVariables false
set_option maxRecDepth 100000
namespace T
open Go Go.Ab
variable {H : Heap} {Γ : List (Nat × Blk)} {K : Value → Heap → Prop} {v w x : Value} {xs ys : List Int}
section
variable {s : Sl} {t : Tb} {c : Ch} {l : List Ch}
set_option maxHeartbeats 4000000 in
theorem applies_main (hO : St H Γ) (hv : RdC Γ v l) (hf : 0 ≤ t.flo) (hver : ∀ c ∈ l, 0 ≤ c.ver) : wCall P n_law11_TableApplies [agg (tbC t), v] H fun v _ => v = .bool true := by
  apply law11_TableApplies_ok; unfold law11_TableApplies
  refine new_at hO ?_
  intro p H hO
  refine law11_tableAlive_spec ?_
  repeat (first | refine opP_i (by first | exact qa | exact qs | exact nilCheck_ptr | exact offPtr_ptr | exact bin_eql | exact bin_neq | exact bin_lss | exact bin_gtr | exact bin_leq | exact bin_geq | exact un_not | exact pick_true | exact pick_false | exact qy | exact qn | exact qi | exact qj) ?_ | refine opW_i (by first | exact lenSl_sl | exact min_w | exact max_w) ?_ | refine wy ?_ | refine wn ?_ | refine wIf_t rfl ?_ | refine wIf_f rfl ?_ | refine cond_yes rfl ?_ | refine cond_no rfl ?_)
  refine opW_i (by rw [hv.1]) ?_
  repeat (first | refine opP_i (by first | exact qa | exact qs | exact nilCheck_ptr | exact offPtr_ptr | exact bin_eql | exact bin_neq | exact bin_lss | exact bin_gtr | exact bin_leq | exact bin_geq | exact un_not | exact pick_true | exact pick_false | exact qy | exact qn | exact qi | exact qj) ?_ | refine opW_i (by first | exact lenSl_sl | exact min_w | exact max_w) ?_ | refine wy ?_ | refine wn ?_ | refine wIf_t rfl ?_ | refine wIf_f rfl ?_ | refine cond_yes rfl ?_ | refine cond_no rfl ?_)
  refine wIf_dec (fun h => ?_) (fun h => ?_)
  · rfl
  refine loadAll_at hO (Γ.length + 0) (at_r rfl) rfl (by omega) ?_
  refine table_Apply_spec hO hv.app (by omega) ?_
  intro H hO
  obtain ⟨u, e, hu⟩ : ∃ u e, tApply t l = (u, e) := ⟨_, _, rfl⟩
  rw [hu]
  refine opP_i ext0 ?_
  refine opP_i ext1 ?_
  rw [zc29]
  refine new_at hO ?_
  intro q H hO
  rw [List.append_assoc] at hO
  refine storeAll_at hO (Γ.length + 1) (at_r rfl) rfl rfl rfl ?_
  intro H hO
  replace hO : St H (Γ ++ [(p, ⟨tbC t, true⟩), (q, ⟨tbC u, true⟩)]) := hO.set_r
  refine loadAll_at hO (Γ.length + 0) (at_r rfl) rfl (by omega) ?_
  refine ref11_Apply_spec hO hv.app (by omega) ?_
  intro H hO
  rw [hu]
  refine opP_i ext0 ?_
  refine opP_i ext1 ?_
  refine new_at hO ?_
  intro r H hO
  rw [List.append_assoc] at hO
  refine storeAll_at hO (Γ.length + 2) (at_r rfl) rfl rfl rfl ?_
  intro H hO
  replace hO : St H (Γ ++ [(p, ⟨tbC t, true⟩), (q, ⟨tbC u, true⟩), (r, ⟨tbC u, true⟩)]) := hO.set_r
  refine loadAll_at hO (Γ.length + 0) (at_r rfl) rfl (by omega) ?_
  refine table_Right_spec hO ?_
  intro H2 hO2
  refine loadAll_at hO2 (Γ.length + 0) (at_r rfl) rfl (by omega) ?_
  refine ⟨same_at hO (Γ.length + 0) (at_r rfl) hO2 (Γ.length + 0) (at_r rfl) rfl, ?_⟩
  refine ref11_Right_spec hO2 ?_
  clear hO hO2
  intro H hO
  refine opP_i (bin_eql_b u4) ?_
  refine wIf_t (by simp) ?_
  refine loadAll_at hO (Γ.length + 1) (at_r rfl) rfl (by omega) ?_
  refine loadAll_at hO (Γ.length + 2) (at_r rfl) rfl (by omega) ?_
  refine opP_i (eq37_self _ _) ?_
  rw [show ((decide (TRight t) == decide (TRight t)) = true) by simp]
  repeat (first | refine opP_i (by first | exact qa | exact qs | exact nilCheck_ptr | exact offPtr_ptr | exact bin_eql | exact bin_neq | exact bin_lss | exact bin_gtr | exact bin_leq | exact bin_geq | exact un_not | exact pick_true | exact pick_false | exact qy | exact qn | exact qi | exact qj) ?_ | refine opW_i (by first | exact lenSl_sl | exact min_w | exact max_w) ?_ | refine wy ?_ | refine wn ?_ | refine wIf_t rfl ?_ | refine wIf_f rfl ?_ | refine cond_yes rfl ?_ | refine cond_no rfl ?_ | refine ld hO 0 rfl rfl ?_ | refine ld hO 1 rfl rfl ?_ | refine ld hO 2 rfl rfl ?_ | refine ld hO 3 rfl rfl ?_ | refine ld hO 4 rfl rfl ?_ | refine ld hO 5 rfl rfl ?_)
  refine loadAll_at hO (Γ.length + 0) (at_r rfl) rfl (by omega) ?_
  refine table_Bytes_spec hO hf ?_
  intro H2 v1 c1 hO2 h1
  refine opW_i (h1.rd.app'.str hO2) ?_
  refine loadAll_at hO2 (Γ.length + 0) (at_l (at_r rfl)) rfl (by omega) ?_
  refine ⟨same_at hO (Γ.length + 0) (at_r rfl) hO2 (Γ.length + 0) (at_l (at_r rfl)) rfl, ?_⟩
  clear hO
  refine ref11_Bytes_spec hO2 hf ?_
  intro H v2 c2 hO h2
  refine ⟨same_own hO2 h1 hO, ?_⟩
  refine opW_i (h2.rd.app'.str hO) ?_
  refine opP_i (str_self _ _ _) ?_
  repeat (first | refine opP_i (by first | exact qa | exact qs | exact nilCheck_ptr | exact offPtr_ptr | exact bin_eql | exact bin_neq | exact bin_lss | exact bin_gtr | exact bin_leq | exact bin_geq | exact un_not | exact pick_true | exact pick_false | exact qy | exact qn | exact qi | exact qj) ?_ | refine opW_i (by first | exact lenSl_sl | exact min_w | exact max_w) ?_ | refine wy ?_ | refine wn ?_ | refine wIf_t rfl ?_ | refine wIf_f rfl ?_ | refine cond_yes rfl ?_ | refine cond_no rfl ?_ | refine ld hO 0 rfl rfl ?_ | refine ld hO 1 rfl rfl ?_ | refine ld hO 2 rfl rfl ?_ | refine ld hO 3 rfl rfl ?_ | refine ld hO 4 rfl rfl ?_ | refine ld hO 5 rfl rfl ?_)
  have hO := hO.left.left
  refine table_Put_spec hO hv.app (by omega) hver ?_
  clear hO2
  intro H v3 c3 hO h3
  refine opW_i (h3.rd.app'.str hO) ?_
  refine ref11_Put_spec hO hv.app.app (by omega) hver ?_
  intro H2 v4 c4 hO2 h4
  refine ⟨same_own hO h3 hO2, ?_⟩
  refine opW_i (h4.rd.app'.str hO2) ?_
  refine opP_i (str_self _ _ _) ?_
  repeat (first | refine opP_i (by first | exact qa | exact qs | exact nilCheck_ptr | exact offPtr_ptr | exact bin_eql | exact bin_neq | exact bin_lss | exact bin_gtr | exact bin_leq | exact bin_geq | exact un_not | exact pick_true | exact pick_false | exact qy | exact qn | exact qi | exact qj) ?_ | refine opW_i (by first | exact lenSl_sl | exact min_w | exact max_w) ?_ | refine wy ?_ | refine wn ?_ | refine wIf_t rfl ?_ | refine wIf_f rfl ?_ | refine cond_yes rfl ?_ | refine cond_no rfl ?_ | refine ld hO 0 rfl rfl ?_ | refine ld hO 1 rfl rfl ?_ | refine ld hO 2 rfl rfl ?_ | refine ld hO 3 rfl rfl ?_ | refine ld hO 4 rfl rfl ?_ | refine ld hO 5 rfl rfl ?_)
  rfl
end
/-! arguments -/
theorem shp_tableW {ts : List TypeId} {N : Nat} {c : List Value} {b : List (List Value)} (h : ShpL P (37 :: ts) N c b) : ∃ (t : Tb) (c' : List Value), c = tbC t ++ c' ∧ 0 ≤ t.flo ∧ ShpL P ts N c' b := by
  have h0 := shp_structH Go.Proofs.Try.underlying37 h
  have h0 : ShpL P (35 :: 3 :: 3 :: 30 :: ts) N c b := h0
  have h1 := shp_arrayH Go.Proofs.Try.underlying35 h0
  have h1 : ShpL P (34 :: 34 :: 3 :: 3 :: 30 :: ts) N c b := h1
  obtain ⟨a, c1, e1, h2⟩ := shp_slot h1
  obtain ⟨s, c2, e2, h3⟩ := shp_slot h2
  obtain ⟨x1, c3, e3, _, h4⟩ := shp_int1 (k := .i64) Go.Proofs.Try.underlying3 h3
  obtain ⟨x2, c4, e4, _, h5⟩ := shp_int1 (k := .i64) Go.Proofs.Try.underlying3 h4
  obtain ⟨x3, c5, e5, w, h6⟩ := shp_int1 (k := .u64) Go.Proofs.Try.underlying30 h5
  refine ⟨⟨a, s, x1, x2, x3⟩, c5, ?_, (wf_u64 w).1, h6⟩
  rw [e1, e2, e3, e4, e5]; rfl
theorem arg_tableW {ts : List TypeId} {N : Nat} {av : List Value} {b : List (List Value)} (h : ArgS P (37 :: ts) N av b) : ∃ (t : Tb) (vs : List Value), av = agg (tbC t) :: vs ∧ 0 ≤ t.flo ∧ ArgS P ts N vs b := by
  obtain ⟨cs, vs, b1, b2, rfl, rfl, h1, h2⟩ := arg_agg h (.inl ⟨_, Go.Proofs.Try.underlying37⟩)
  obtain ⟨t, c', rfl, hf, h3⟩ := shp_tableW h1
  obtain ⟨rfl, rfl⟩ := shp_nil h3
  refine ⟨t, vs, ?_, hf, by simpa using h2⟩
  rw [List.append_nil]
theorem shp_chL : ∀ (n N : Nat) (c : List Value) (b : List (List Value)), ShpL P (List.replicate n 41) N c b → b = [] ∧ ∃ l : List Ch, c = chs l ∧ l.length = n ∧ ∀ c ∈ l, 0 ≤ c.ver
  | 0, N, c, b, h => by cases h; exact ⟨rfl, [], rfl, rfl, by simp⟩
  | n + 1, N, c, b, h => by
    have h : ShpL P (41 :: List.replicate n 41) N c b := h
    have h0 := shp_structH Go.Proofs.Try.underlying41 h
    have h0 : ShpL P (3 :: 3 :: 3 :: 34 :: 30 :: List.replicate n 41) N c b := h0
    obtain ⟨x1, c1, e1, _, h1⟩ := shp_int1 (k := .i64) Go.Proofs.Try.underlying3 h0
    obtain ⟨x2, c2, e2, _, h2⟩ := shp_int1 (k := .i64) Go.Proofs.Try.underlying3 h1
    obtain ⟨x3, c3, e3, _, h3⟩ := shp_int1 (k := .i64) Go.Proofs.Try.underlying3 h2
    obtain ⟨s, c4, e4, h4⟩ := shp_slot h3
    obtain ⟨x5, c5, e5, w, h5⟩ := shp_int1 (k := .u64) Go.Proofs.Try.underlying30 h4
    obtain ⟨hb, l, e6, hl, hw⟩ := shp_chL n _ _ _ h5
    refine ⟨hb, ⟨x1, x2, x3, s, x5⟩ :: l, ?_, by simp [hl], ?_⟩
    · rw [e1, e2, e3, e4, e5, e6]
      show _ = chC ⟨x1, x2, x3, s, x5⟩ ++ chs l
      simp [chC]
    · intro c hc
      rcases List.mem_cons.1 hc with rfl | hc
      · exact (wf_u64 w).1
      · exact hw c hc
theorem arg_chs {ts : List TypeId} {N : Nat} {av : List Value} {b : List (List Value)} (h : ArgS P (43 :: ts) N av b) :
    ∃ v vs b1 b2 l, av = v :: vs ∧ b = b1 ++ b2 ∧ RdC (argG N b1) v l ∧ (∀ c ∈ l, 0 ≤ c.ver) ∧ ArgS P ts (N + b1.length) vs b2 := by
  have hu : P.underlying 43 = some (.slice 41) := by kernel_rfl
  obtain ⟨v, vs, b1, b2, e, eb, h1, h2⟩ := arg_one h (by rw [hu]; simp) (by rw [hu]; simp)
  rcases shp_sl hu h1 with ⟨c', e1, h3⟩ | ⟨len, cells, c', bs, b', e1, eb1, hm, hl, h3, h4⟩
  · cases e1
    exact ⟨_, vs, b1, b2, [], e, eb, ⟨rfl, .inl rfl⟩, by simp, h2⟩
  · cases e1
    obtain ⟨hb, l, rfl, rfl, hw⟩ := shp_chL _ _ _ _ h3
    subst hb
    subst eb1
    exact ⟨_, vs, _, b2, l, e, eb, ⟨rfl, .inr ⟨N, _, 0, rfl, _, rfl⟩⟩, hw, h2⟩
end T
