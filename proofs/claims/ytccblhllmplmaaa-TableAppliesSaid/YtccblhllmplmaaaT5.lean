import Derived.Test.YtccblhllmplmaaaT4
import Derived.Test.YtccblhllmplmaaaAbBy
set_option linter.unusedVariables false
set_option maxRecDepth 100000
namespace T
open Go Go.Ab
variable {H : Heap} {Γ : List (Nat × Blk)} {K : Value → Heap → Prop} {v w x : Value} {xs ys : List Int}
/-- bytes that were made -/
abbrev MadeB (Γ : List (Nat × Blk)) (K : Value → Heap → Prop) (xs : List Int) : Prop := ∀ (H' : Heap) (v' : Value) (cs' : List Value), St H' (Γ ++ outB v' cs') → OwnB v' xs cs' → K v' H'
theorem MadeB.none (h : MadeB Γ K []) (hO : St H Γ) : K nilSl H := h H nilSl [] (by show St H (Γ ++ []); rw [List.append_nil]; exact hO) OwnB.nil
theorem u46 : P.underlying 46 = some (.slice 5) := by kernel_rfl
theorem bs46_0 (H : Heap) : (buildSliceC P 46 0).f [] H = some (sl H.next 0 0 3, H.push []) := by kernel_rfl
theorem bs46_1 (k : IntKind) (n : Int) (H : Heap) : (buildSliceC P 46 1).f [(0, .int k n)] H = some (sl H.next 0 1 3, H.push [.int k n]) := by kernel_rfl
theorem bs46_2 (k k' : IntKind) (m n : Int) (H : Heap) : (buildSliceC P 46 2).f [(0, .int k m), (1, .int k' n)] H = some (sl H.next 0 2 3, H.push [.int k m, .int k' n]) := by kernel_rfl
theorem bs65_1 (a : Option Addr) (n c : Nat) (H : Heap) : (buildSliceC P 65 1).f [(0, .slice a n c)] H = some (sl H.next 0 1 3, H.push [.slice a n c]) := by kernel_rfl
theorem bs65_2 (a a' : Option Addr) (n n' c c' : Nat) (H : Heap) : (buildSliceC P 65 2).f [(0, .slice a n c), (1, .slice a' n' c')] H = some (sl H.next 0 2 3, H.push [.slice a n c, .slice a' n' c']) := by kernel_rfl
theorem Clone_spec (hO : St H Γ) (hv : RdB Γ v xs) (hl : xs.length ≤ 100000000) (hk : MadeB Γ K xs) : wCall P n_slices_Clone_byte_byte [v] H K := by
  apply slices_Clone_byte_byte_ok; unfold slices_Clone_byte_byte
  have hv' := hv
  rcases hv with ⟨rfl, rfl⟩ | ⟨p, o, c, rfl, _⟩
  · refine opP_i (eql_nil u46) ?_
    refine wIf_t rfl ?_
    exact hk.none hO
  · refine opP_i (eql_nil u46) ?_
    refine wIf_f rfl ?_
    refine newSl_at hO (bs46_0 _) ?_
    intro q H hO
    exact append_by (v := sl q 0 0 3) (cs := []) (xs := []) hO (.inr ⟨q, .inr ⟨rfl, rfl⟩, rfl, Nat.le_refl _, rfl⟩) hv' (by simp; omega) hk
theorem within_spec {n : Nat} (hn : n ≤ 8) (hk : K (int n) H) : wCall P n_code_within [int n] H K := by
  apply code_within_ok; unfold code_within
  repeat (first | refine opP_i (bin_addi (by omega) (by omega)) ?_ | refine opP_i (bin_subi (by omega) (by omega)) ?_ | refine opP_i nilCheck_ptr ?_ | refine opP_i offPtr_ptr ?_ | refine opP_i bin_eql ?_ | refine opP_i bin_neq ?_ | refine opP_i bin_lss ?_ | refine opP_i bin_gtr ?_ | refine opP_i bin_leq ?_ | refine opP_i bin_geq ?_ | refine opP_i un_not ?_ | refine opP_i pick_true ?_ | refine opP_i pick_false ?_ | refine opP_i (pick_yes (by first | assumption | omega)) ?_ | refine opP_i (pick_no (by first | assumption | omega)) ?_ | refine opP_i (idxSl_ok (by omega) (by omega)) ?_ | refine opP_i (idxPtr_ok (by omega) (by omega)) ?_ | refine opW_i lenSl_sl ?_ | refine opW_i min_w ?_ | refine opW_i max_w ?_ | refine load_at hO 0 rfl rfl ?_ | refine load_at hO 1 rfl rfl ?_ | refine load_at hO 2 rfl rfl ?_ | refine load_at hO 3 rfl rfl ?_ | refine load_at hO 4 rfl rfl ?_ | refine load_at hO 5 rfl rfl ?_ | refine load_at hO 6 rfl rfl ?_ | refine load_at hO 7 rfl rfl ?_ | refine load_at hO 8 rfl rfl ?_ | refine load_at hO 9 rfl rfl ?_ | refine wIf_yes (by first | assumption | omega) ?_ | refine wIf_no (by first | assumption | omega) ?_ | refine wIf_t rfl ?_ | refine wIf_f rfl ?_ | refine cond_yes rfl ?_ | refine cond_no rfl ?_)
  rw [show max (0 : Int) (min (n : Int) 8) = n by omega]
  exact hk
theorem cap46 (H : Heap) : (builtinC P .cap [46]).f [nilSl] H = some (int 0, H) := by kernel_rfl
theorem app46_0 (x : Value) (H : Heap) : (builtinC P .append [46, 3]).f [nilSl, x] H = appendZeros 1 1 [.int .u8 0] nilSl x H := by kernel_rfl
theorem app46 {m : Nat} (h0 : 0 < m) (h1 : m ≤ 1000000000) (H : Heap) : (builtinC P .append [46, 3]).f [nilSl, int m] H = some (sl H.next 0 m 2, H.push (repl m [.int .u8 0])) := by
  rw [app46_0]
  unfold appendZeros
  simp only
  rw [leB_eq, decide_eq_true (show (0 : Int) ≤ m by omega)]
  simp only [Nat.beq_refl, Bool.and_self, Int.toNat_natCast]
  have hb : Nat.beq m 0 = false := by
    cases hb : Nat.beq m 0 with
    | false => rfl
    | true => have := Nat.eq_of_beq_eq_true hb; omega
  rw [hb, room_of (by omega) (by omega)]
  rfl
theorem Grow_spec {n : Nat} (hO : St H Γ) (hn : n ≤ 1000000000) (hk : MadeB Γ K []) : wCall P n_slices_Grow_byte_byte [nilSl, int n] H K := by
  apply slices_Grow_byte_byte_ok; unfold slices_Grow_byte_byte
  refine join_with (fun l' H' => l' = [nilSl, int n] ∧ St H' Γ) ?_ ?_
  · repeat (first | refine opP_i (bin_addi (by omega) (by omega)) ?_ | refine opP_i (bin_subi (by omega) (by omega)) ?_ | refine opP_i nilCheck_ptr ?_ | refine opP_i offPtr_ptr ?_ | refine opP_i bin_eql ?_ | refine opP_i bin_neq ?_ | refine opP_i bin_lss ?_ | refine opP_i bin_gtr ?_ | refine opP_i bin_leq ?_ | refine opP_i bin_geq ?_ | refine opP_i un_not ?_ | refine opP_i pick_true ?_ | refine opP_i pick_false ?_ | refine opP_i (pick_yes (by first | assumption | omega)) ?_ | refine opP_i (pick_no (by first | assumption | omega)) ?_ | refine opP_i (idxSl_ok (by omega) (by omega)) ?_ | refine opP_i (idxPtr_ok (by omega) (by omega)) ?_ | refine opW_i lenSl_sl ?_ | refine opW_i min_w ?_ | refine opW_i max_w ?_ | refine load_at hO 0 rfl rfl ?_ | refine load_at hO 1 rfl rfl ?_ | refine load_at hO 2 rfl rfl ?_ | refine load_at hO 3 rfl rfl ?_ | refine load_at hO 4 rfl rfl ?_ | refine load_at hO 5 rfl rfl ?_ | refine load_at hO 6 rfl rfl ?_ | refine load_at hO 7 rfl rfl ?_ | refine load_at hO 8 rfl rfl ?_ | refine load_at hO 9 rfl rfl ?_ | refine wIf_yes (by first | assumption | omega) ?_ | refine wIf_no (by first | assumption | omega) ?_ | refine wIf_t rfl ?_ | refine wIf_f rfl ?_ | refine cond_yes rfl ?_ | refine cond_no rfl ?_)
    exact ⟨rfl, hO⟩
  clear hO
  rintro l' H ⟨rfl, hO⟩
  try simp only [nth_zero, nth_succ]
  refine opW_i (cap46 _) ?_
  repeat (first | refine opP_i (bin_addi (by omega) (by omega)) ?_ | refine opP_i (bin_subi (by omega) (by omega)) ?_ | refine opP_i nilCheck_ptr ?_ | refine opP_i offPtr_ptr ?_ | refine opP_i bin_eql ?_ | refine opP_i bin_neq ?_ | refine opP_i bin_lss ?_ | refine opP_i bin_gtr ?_ | refine opP_i bin_leq ?_ | refine opP_i bin_geq ?_ | refine opP_i un_not ?_ | refine opP_i pick_true ?_ | refine opP_i pick_false ?_ | refine opP_i (pick_yes (by first | assumption | omega)) ?_ | refine opP_i (pick_no (by first | assumption | omega)) ?_ | refine opP_i (idxSl_ok (by omega) (by omega)) ?_ | refine opP_i (idxPtr_ok (by omega) (by omega)) ?_ | refine opW_i lenSl_sl ?_ | refine opW_i min_w ?_ | refine opW_i max_w ?_ | refine load_at hO 0 rfl rfl ?_ | refine load_at hO 1 rfl rfl ?_ | refine load_at hO 2 rfl rfl ?_ | refine load_at hO 3 rfl rfl ?_ | refine load_at hO 4 rfl rfl ?_ | refine load_at hO 5 rfl rfl ?_ | refine load_at hO 6 rfl rfl ?_ | refine load_at hO 7 rfl rfl ?_ | refine load_at hO 8 rfl rfl ?_ | refine load_at hO 9 rfl rfl ?_ | refine wIf_yes (by first | assumption | omega) ?_ | refine wIf_no (by first | assumption | omega) ?_ | refine wIf_t rfl ?_ | refine wIf_f rfl ?_ | refine cond_yes rfl ?_ | refine cond_no rfl ?_)
  refine wIf_dec (fun h => ?_) (fun h => ?_)
  · refine opW_i (cap46 _) ?_
    refine opP_i (show sliceSl 1 nilSl none (some (int 0)) none = some nilSl from rfl) ?_
    rw [show (n : Int) - (0 - ((0 : Nat) : Int)) = n by omega] at h ⊢
    refine newSl_at hO (app46 (by omega) hn _) ?_
    intro p H hO
    repeat (first | refine opP_i (bin_addi (by omega) (by omega)) ?_ | refine opP_i (bin_subi (by omega) (by omega)) ?_ | refine opP_i nilCheck_ptr ?_ | refine opP_i offPtr_ptr ?_ | refine opP_i bin_eql ?_ | refine opP_i bin_neq ?_ | refine opP_i bin_lss ?_ | refine opP_i bin_gtr ?_ | refine opP_i bin_leq ?_ | refine opP_i bin_geq ?_ | refine opP_i un_not ?_ | refine opP_i pick_true ?_ | refine opP_i pick_false ?_ | refine opP_i (pick_yes (by first | assumption | omega)) ?_ | refine opP_i (pick_no (by first | assumption | omega)) ?_ | refine opP_i (idxSl_ok (by omega) (by omega)) ?_ | refine opP_i (idxPtr_ok (by omega) (by omega)) ?_ | refine opW_i lenSl_sl ?_ | refine opW_i min_w ?_ | refine opW_i max_w ?_ | refine load_at hO 0 rfl rfl ?_ | refine load_at hO 1 rfl rfl ?_ | refine load_at hO 2 rfl rfl ?_ | refine load_at hO 3 rfl rfl ?_ | refine load_at hO 4 rfl rfl ?_ | refine load_at hO 5 rfl rfl ?_ | refine load_at hO 6 rfl rfl ?_ | refine load_at hO 7 rfl rfl ?_ | refine load_at hO 8 rfl rfl ?_ | refine load_at hO 9 rfl rfl ?_ | refine wIf_yes (by first | assumption | omega) ?_ | refine wIf_no (by first | assumption | omega) ?_ | refine wIf_t rfl ?_ | refine wIf_f rfl ?_ | refine cond_yes rfl ?_ | refine cond_no rfl ?_)
    refine opP_i (show sliceSl 1 (sl p 0 n 2) none (some (int ((0 : Nat) : Int))) none = some (sl p 0 0 2) from rfl) ?_
    exact hk _ _ _ hO (.inr ⟨p, .inl rfl, rfl, Nat.zero_le _, by rw [repl1_eq]; simp [simpleB, simple0]⟩)
  · exact hk.none hO
/-- a slice of slices -/
def RdL (Γ : List (Nat × Blk)) (v : Value) (vs : List Value) : Prop := ∃ (p c j : Nat) (w : Bool), v = sl p 0 vs.length c ∧ Γ[j]? = some (p, (⟨vs, w⟩ : Blk))
theorem take_flat {xss : List (List Int)} {y : Nat} (h : y < xss.length) : (xss.take (y + 1)).flatten = (xss.take y).flatten ++ xss[y] := by
  rw [List.take_succ_eq_append_getElem h, List.flatten_append]; simp
theorem flat_le {xss : List (List Int)} (y : Nat) : (xss.take y).flatten.length ≤ xss.flatten.length := by
  conv => rhs; rw [← List.take_append_drop y xss]
  rw [List.flatten_append, List.length_append]; omega
theorem Concat_spec {vs : List Value} {xss : List (List Int)} (hO : St H Γ) (hv : RdL Γ v vs) (hlen : xss.length = vs.length) (hall : ∀ i (h : i < vs.length) (h' : i < xss.length), RdB Γ vs[i] xss[i]) (hl : xss.flatten.length ≤ 100000000) (hm : vs.length ≤ 1000000) (hk : MadeB Γ K xss.flatten) : wCall P n_slices_Concat_byte_byte [v] H K := by
  apply slices_Concat_byte_byte_ok; unfold slices_Concat_byte_byte
  obtain ⟨p, c, j, w, rfl, hj⟩ := hv
  repeat (first | refine opP_i (bin_addi (by omega) (by omega)) ?_ | refine opP_i (bin_subi (by omega) (by omega)) ?_ | refine opP_i nilCheck_ptr ?_ | refine opP_i offPtr_ptr ?_ | refine opP_i bin_eql ?_ | refine opP_i bin_neq ?_ | refine opP_i bin_lss ?_ | refine opP_i bin_gtr ?_ | refine opP_i bin_leq ?_ | refine opP_i bin_geq ?_ | refine opP_i un_not ?_ | refine opP_i pick_true ?_ | refine opP_i pick_false ?_ | refine opP_i (pick_yes (by first | assumption | omega)) ?_ | refine opP_i (pick_no (by first | assumption | omega)) ?_ | refine opP_i (idxSl_ok (by omega) (by omega)) ?_ | refine opP_i (idxPtr_ok (by omega) (by omega)) ?_ | refine opW_i lenSl_sl ?_ | refine opW_i min_w ?_ | refine opW_i max_w ?_ | refine load_at hO 0 rfl rfl ?_ | refine load_at hO 1 rfl rfl ?_ | refine load_at hO 2 rfl rfl ?_ | refine load_at hO 3 rfl rfl ?_ | refine load_at hO 4 rfl rfl ?_ | refine load_at hO 5 rfl rfl ?_ | refine load_at hO 6 rfl rfl ?_ | refine load_at hO 7 rfl rfl ?_ | refine load_at hO 8 rfl rfl ?_ | refine load_at hO 9 rfl rfl ?_ | refine wIf_yes (by first | assumption | omega) ?_ | refine wIf_no (by first | assumption | omega) ?_ | refine wIf_t rfl ?_ | refine wIf_f rfl ?_ | refine cond_yes rfl ?_ | refine cond_no rfl ?_)
  refine slices_Concat_byte_byte_L0_ind (fun k l' H' => ∃ y : Nat, y ≤ vs.length ∧ k = vs.length - y ∧ l' = [sl p 0 vs.length c, nilSl, int ((xss.take y).flatten.length : Nat), sl p 0 vs.length c, int vs.length, int y] ∧ St H' Γ) _ _ ?_ vs.length _ _ ⟨0, by omega, by omega, rfl, hO⟩
  clear hO
  rintro k l' H' ⟨y, hy, rfl, rfl, hO⟩
  unfold slices_Concat_byte_byte_L0
  try simp only [nth_zero, nth_succ]
  have hle := flat_le (xss := xss) y
  repeat (first | refine opP_i (bin_addi (by omega) (by omega)) ?_ | refine opP_i (bin_subi (by omega) (by omega)) ?_ | refine opP_i nilCheck_ptr ?_ | refine opP_i offPtr_ptr ?_ | refine opP_i bin_eql ?_ | refine opP_i bin_neq ?_ | refine opP_i bin_lss ?_ | refine opP_i bin_gtr ?_ | refine opP_i bin_leq ?_ | refine opP_i bin_geq ?_ | refine opP_i un_not ?_ | refine opP_i pick_true ?_ | refine opP_i pick_false ?_ | refine opP_i (pick_yes (by first | assumption | omega)) ?_ | refine opP_i (pick_no (by first | assumption | omega)) ?_ | refine opP_i (idxSl_ok (by omega) (by omega)) ?_ | refine opP_i (idxPtr_ok (by omega) (by omega)) ?_ | refine opW_i lenSl_sl ?_ | refine opW_i min_w ?_ | refine opW_i max_w ?_ | refine load_at hO 0 rfl rfl ?_ | refine load_at hO 1 rfl rfl ?_ | refine load_at hO 2 rfl rfl ?_ | refine load_at hO 3 rfl rfl ?_ | refine load_at hO 4 rfl rfl ?_ | refine load_at hO 5 rfl rfl ?_ | refine load_at hO 6 rfl rfl ?_ | refine load_at hO 7 rfl rfl ?_ | refine load_at hO 8 rfl rfl ?_ | refine load_at hO 9 rfl rfl ?_ | refine wIf_yes (by first | assumption | omega) ?_ | refine wIf_no (by first | assumption | omega) ?_ | refine wIf_t rfl ?_ | refine wIf_f rfl ?_ | refine cond_yes rfl ?_ | refine cond_no rfl ?_)
  refine wIf_dec (fun h => ?_) (fun h => ?_)
  · have hyl : y < vs.length := by omega
    have hyx : y < xss.length := by omega
    have hr := hall y hyl hyx
    have hs := take_flat hyx
    have hle2 := flat_le (xss := xss) (y + 1)
    rw [hs, List.length_append] at hle2
    repeat (first | refine opP_i (bin_addi (by omega) (by omega)) ?_ | refine opP_i (bin_subi (by omega) (by omega)) ?_ | refine opP_i nilCheck_ptr ?_ | refine opP_i offPtr_ptr ?_ | refine opP_i bin_eql ?_ | refine opP_i bin_neq ?_ | refine opP_i bin_lss ?_ | refine opP_i bin_gtr ?_ | refine opP_i bin_leq ?_ | refine opP_i bin_geq ?_ | refine opP_i un_not ?_ | refine opP_i pick_true ?_ | refine opP_i pick_false ?_ | refine opP_i (pick_yes (by first | assumption | omega)) ?_ | refine opP_i (pick_no (by first | assumption | omega)) ?_ | refine opP_i (idxSl_ok (by omega) (by omega)) ?_ | refine opP_i (idxPtr_ok (by omega) (by omega)) ?_ | refine opW_i lenSl_sl ?_ | refine opW_i min_w ?_ | refine opW_i max_w ?_ | refine load_at hO 0 rfl rfl ?_ | refine load_at hO 1 rfl rfl ?_ | refine load_at hO 2 rfl rfl ?_ | refine load_at hO 3 rfl rfl ?_ | refine load_at hO 4 rfl rfl ?_ | refine load_at hO 5 rfl rfl ?_ | refine load_at hO 6 rfl rfl ?_ | refine load_at hO 7 rfl rfl ?_ | refine load_at hO 8 rfl rfl ?_ | refine load_at hO 9 rfl rfl ?_ | refine wIf_yes (by first | assumption | omega) ?_ | refine wIf_no (by first | assumption | omega) ?_ | refine wIf_t rfl ?_ | refine wIf_f rfl ?_ | refine cond_yes rfl ?_ | refine cond_no rfl ?_)
    refine load_at hO j hj (v := vs[y]) (by simp [hyl]) ?_
    refine opW_i hr.lenSl ?_
    repeat (first | refine opP_i (bin_addi (by omega) (by omega)) ?_ | refine opP_i (bin_subi (by omega) (by omega)) ?_ | refine opP_i nilCheck_ptr ?_ | refine opP_i offPtr_ptr ?_ | refine opP_i bin_eql ?_ | refine opP_i bin_neq ?_ | refine opP_i bin_lss ?_ | refine opP_i bin_gtr ?_ | refine opP_i bin_leq ?_ | refine opP_i bin_geq ?_ | refine opP_i un_not ?_ | refine opP_i pick_true ?_ | refine opP_i pick_false ?_ | refine opP_i (pick_yes (by first | assumption | omega)) ?_ | refine opP_i (pick_no (by first | assumption | omega)) ?_ | refine opP_i (idxSl_ok (by omega) (by omega)) ?_ | refine opP_i (idxPtr_ok (by omega) (by omega)) ?_ | refine opW_i lenSl_sl ?_ | refine opW_i min_w ?_ | refine opW_i max_w ?_ | refine load_at hO 0 rfl rfl ?_ | refine load_at hO 1 rfl rfl ?_ | refine load_at hO 2 rfl rfl ?_ | refine load_at hO 3 rfl rfl ?_ | refine load_at hO 4 rfl rfl ?_ | refine load_at hO 5 rfl rfl ?_ | refine load_at hO 6 rfl rfl ?_ | refine load_at hO 7 rfl rfl ?_ | refine load_at hO 8 rfl rfl ?_ | refine load_at hO 9 rfl rfl ?_ | refine wIf_yes (by first | assumption | omega) ?_ | refine wIf_no (by first | assumption | omega) ?_ | refine wIf_t rfl ?_ | refine wIf_f rfl ?_ | refine cond_yes rfl ?_ | refine cond_no rfl ?_)
    refine ⟨_, by omega, y + 1, by omega, rfl, ?_, hO⟩
    rw [hs, List.length_append]; simp
  · have e : y = vs.length := by omega
    subst e
    rw [List.take_of_length_le (by omega)]
    repeat (first | refine opP_i (bin_addi (by omega) (by omega)) ?_ | refine opP_i (bin_subi (by omega) (by omega)) ?_ | refine opP_i nilCheck_ptr ?_ | refine opP_i offPtr_ptr ?_ | refine opP_i bin_eql ?_ | refine opP_i bin_neq ?_ | refine opP_i bin_lss ?_ | refine opP_i bin_gtr ?_ | refine opP_i bin_leq ?_ | refine opP_i bin_geq ?_ | refine opP_i un_not ?_ | refine opP_i pick_true ?_ | refine opP_i pick_false ?_ | refine opP_i (pick_yes (by first | assumption | omega)) ?_ | refine opP_i (pick_no (by first | assumption | omega)) ?_ | refine opP_i (idxSl_ok (by omega) (by omega)) ?_ | refine opP_i (idxPtr_ok (by omega) (by omega)) ?_ | refine opW_i lenSl_sl ?_ | refine opW_i min_w ?_ | refine opW_i max_w ?_ | refine load_at hO 0 rfl rfl ?_ | refine load_at hO 1 rfl rfl ?_ | refine load_at hO 2 rfl rfl ?_ | refine load_at hO 3 rfl rfl ?_ | refine load_at hO 4 rfl rfl ?_ | refine load_at hO 5 rfl rfl ?_ | refine load_at hO 6 rfl rfl ?_ | refine load_at hO 7 rfl rfl ?_ | refine load_at hO 8 rfl rfl ?_ | refine load_at hO 9 rfl rfl ?_ | refine wIf_yes (by first | assumption | omega) ?_ | refine wIf_no (by first | assumption | omega) ?_ | refine wIf_t rfl ?_ | refine wIf_f rfl ?_ | refine cond_yes rfl ?_ | refine cond_no rfl ?_)
    refine Grow_spec hO (by omega) ?_
    intro H v' cs' hO' hv'
    repeat (first | refine opP_i (bin_addi (by omega) (by omega)) ?_ | refine opP_i (bin_subi (by omega) (by omega)) ?_ | refine opP_i nilCheck_ptr ?_ | refine opP_i offPtr_ptr ?_ | refine opP_i bin_eql ?_ | refine opP_i bin_neq ?_ | refine opP_i bin_lss ?_ | refine opP_i bin_gtr ?_ | refine opP_i bin_leq ?_ | refine opP_i bin_geq ?_ | refine opP_i un_not ?_ | refine opP_i pick_true ?_ | refine opP_i pick_false ?_ | refine opP_i (pick_yes (by first | assumption | omega)) ?_ | refine opP_i (pick_no (by first | assumption | omega)) ?_ | refine opP_i (idxSl_ok (by omega) (by omega)) ?_ | refine opP_i (idxPtr_ok (by omega) (by omega)) ?_ | refine opW_i lenSl_sl ?_ | refine opW_i min_w ?_ | refine opW_i max_w ?_ | refine load_at hO 0 rfl rfl ?_ | refine load_at hO 1 rfl rfl ?_ | refine load_at hO 2 rfl rfl ?_ | refine load_at hO 3 rfl rfl ?_ | refine load_at hO 4 rfl rfl ?_ | refine load_at hO 5 rfl rfl ?_ | refine load_at hO 6 rfl rfl ?_ | refine load_at hO 7 rfl rfl ?_ | refine load_at hO 8 rfl rfl ?_ | refine load_at hO 9 rfl rfl ?_ | refine wIf_yes (by first | assumption | omega) ?_ | refine wIf_no (by first | assumption | omega) ?_ | refine wIf_t rfl ?_ | refine wIf_f rfl ?_ | refine cond_yes rfl ?_ | refine cond_no rfl ?_)
    refine slices_Concat_byte_byte_L1_ind (fun k l' H' => ∃ (y : Nat) (v' : Value) (cs' : List Value), y ≤ vs.length ∧ k = vs.length - y ∧ l' = [nilSl, v', sl p 0 vs.length c, int vs.length, int y] ∧ St H' (Γ ++ outB v' cs') ∧ OwnB v' (xss.take y).flatten cs') _ _ ?_ vs.length _ _ ⟨0, v', cs', by omega, by omega, rfl, hO', hv'⟩
    clear hO' hv' hO
    rintro k l' H' ⟨y, v', cs', hy, rfl, rfl, hO, hv⟩
    unfold slices_Concat_byte_byte_L1
    try simp only [nth_zero, nth_succ]
    repeat (first | refine opP_i (bin_addi (by omega) (by omega)) ?_ | refine opP_i (bin_subi (by omega) (by omega)) ?_ | refine opP_i nilCheck_ptr ?_ | refine opP_i offPtr_ptr ?_ | refine opP_i bin_eql ?_ | refine opP_i bin_neq ?_ | refine opP_i bin_lss ?_ | refine opP_i bin_gtr ?_ | refine opP_i bin_leq ?_ | refine opP_i bin_geq ?_ | refine opP_i un_not ?_ | refine opP_i pick_true ?_ | refine opP_i pick_false ?_ | refine opP_i (pick_yes (by first | assumption | omega)) ?_ | refine opP_i (pick_no (by first | assumption | omega)) ?_ | refine opP_i (idxSl_ok (by omega) (by omega)) ?_ | refine opP_i (idxPtr_ok (by omega) (by omega)) ?_ | refine opW_i lenSl_sl ?_ | refine opW_i min_w ?_ | refine opW_i max_w ?_ | refine load_at hO 0 rfl rfl ?_ | refine load_at hO 1 rfl rfl ?_ | refine load_at hO 2 rfl rfl ?_ | refine load_at hO 3 rfl rfl ?_ | refine load_at hO 4 rfl rfl ?_ | refine load_at hO 5 rfl rfl ?_ | refine load_at hO 6 rfl rfl ?_ | refine load_at hO 7 rfl rfl ?_ | refine load_at hO 8 rfl rfl ?_ | refine load_at hO 9 rfl rfl ?_ | refine wIf_yes (by first | assumption | omega) ?_ | refine wIf_no (by first | assumption | omega) ?_ | refine wIf_t rfl ?_ | refine wIf_f rfl ?_ | refine cond_yes rfl ?_ | refine cond_no rfl ?_)
    refine wIf_dec (fun h => ?_) (fun h => ?_)
    · have hyl : y < vs.length := by omega
      have hyx : y < xss.length := by omega
      have hr := hall y hyl hyx
      have hs := take_flat hyx
      have hle2 := flat_le (xss := xss) (y + 1)
      rw [hs, List.length_append] at hle2
      repeat (first | refine opP_i (bin_addi (by omega) (by omega)) ?_ | refine opP_i (bin_subi (by omega) (by omega)) ?_ | refine opP_i nilCheck_ptr ?_ | refine opP_i offPtr_ptr ?_ | refine opP_i bin_eql ?_ | refine opP_i bin_neq ?_ | refine opP_i bin_lss ?_ | refine opP_i bin_gtr ?_ | refine opP_i bin_leq ?_ | refine opP_i bin_geq ?_ | refine opP_i un_not ?_ | refine opP_i pick_true ?_ | refine opP_i pick_false ?_ | refine opP_i (pick_yes (by first | assumption | omega)) ?_ | refine opP_i (pick_no (by first | assumption | omega)) ?_ | refine opP_i (idxSl_ok (by omega) (by omega)) ?_ | refine opP_i (idxPtr_ok (by omega) (by omega)) ?_ | refine opW_i lenSl_sl ?_ | refine opW_i min_w ?_ | refine opW_i max_w ?_ | refine load_at hO 0 rfl rfl ?_ | refine load_at hO 1 rfl rfl ?_ | refine load_at hO 2 rfl rfl ?_ | refine load_at hO 3 rfl rfl ?_ | refine load_at hO 4 rfl rfl ?_ | refine load_at hO 5 rfl rfl ?_ | refine load_at hO 6 rfl rfl ?_ | refine load_at hO 7 rfl rfl ?_ | refine load_at hO 8 rfl rfl ?_ | refine load_at hO 9 rfl rfl ?_ | refine wIf_yes (by first | assumption | omega) ?_ | refine wIf_no (by first | assumption | omega) ?_ | refine wIf_t rfl ?_ | refine wIf_f rfl ?_ | refine cond_yes rfl ?_ | refine cond_no rfl ?_)
      refine load_at hO j (at_l hj) (v := vs[y]) (by simp [hyl]) ?_
      refine append_by hO hv hr (by omega) ?_
      intro H v'' cs'' hO hv
      repeat (first | refine opP_i (bin_addi (by omega) (by omega)) ?_ | refine opP_i (bin_subi (by omega) (by omega)) ?_ | refine opP_i nilCheck_ptr ?_ | refine opP_i offPtr_ptr ?_ | refine opP_i bin_eql ?_ | refine opP_i bin_neq ?_ | refine opP_i bin_lss ?_ | refine opP_i bin_gtr ?_ | refine opP_i bin_leq ?_ | refine opP_i bin_geq ?_ | refine opP_i un_not ?_ | refine opP_i pick_true ?_ | refine opP_i pick_false ?_ | refine opP_i (pick_yes (by first | assumption | omega)) ?_ | refine opP_i (pick_no (by first | assumption | omega)) ?_ | refine opP_i (idxSl_ok (by omega) (by omega)) ?_ | refine opP_i (idxPtr_ok (by omega) (by omega)) ?_ | refine opW_i lenSl_sl ?_ | refine opW_i min_w ?_ | refine opW_i max_w ?_ | refine load_at hO 0 rfl rfl ?_ | refine load_at hO 1 rfl rfl ?_ | refine load_at hO 2 rfl rfl ?_ | refine load_at hO 3 rfl rfl ?_ | refine load_at hO 4 rfl rfl ?_ | refine load_at hO 5 rfl rfl ?_ | refine load_at hO 6 rfl rfl ?_ | refine load_at hO 7 rfl rfl ?_ | refine load_at hO 8 rfl rfl ?_ | refine load_at hO 9 rfl rfl ?_ | refine wIf_yes (by first | assumption | omega) ?_ | refine wIf_no (by first | assumption | omega) ?_ | refine wIf_t rfl ?_ | refine wIf_f rfl ?_ | refine cond_yes rfl ?_ | refine cond_no rfl ?_)
      refine ⟨_, by omega, y + 1, v'', cs'', by omega, rfl, rfl, hO, ?_⟩
      rw [hs]; exact hv
    · have e : y = vs.length := by omega
      subst e
      rw [List.take_of_length_le (by omega)] at hv
      repeat (first | refine opP_i (bin_addi (by omega) (by omega)) ?_ | refine opP_i (bin_subi (by omega) (by omega)) ?_ | refine opP_i nilCheck_ptr ?_ | refine opP_i offPtr_ptr ?_ | refine opP_i bin_eql ?_ | refine opP_i bin_neq ?_ | refine opP_i bin_lss ?_ | refine opP_i bin_gtr ?_ | refine opP_i bin_leq ?_ | refine opP_i bin_geq ?_ | refine opP_i un_not ?_ | refine opP_i pick_true ?_ | refine opP_i pick_false ?_ | refine opP_i (pick_yes (by first | assumption | omega)) ?_ | refine opP_i (pick_no (by first | assumption | omega)) ?_ | refine opP_i (idxSl_ok (by omega) (by omega)) ?_ | refine opP_i (idxPtr_ok (by omega) (by omega)) ?_ | refine opW_i lenSl_sl ?_ | refine opW_i min_w ?_ | refine opW_i max_w ?_ | refine load_at hO 0 rfl rfl ?_ | refine load_at hO 1 rfl rfl ?_ | refine load_at hO 2 rfl rfl ?_ | refine load_at hO 3 rfl rfl ?_ | refine load_at hO 4 rfl rfl ?_ | refine load_at hO 5 rfl rfl ?_ | refine load_at hO 6 rfl rfl ?_ | refine load_at hO 7 rfl rfl ?_ | refine load_at hO 8 rfl rfl ?_ | refine load_at hO 9 rfl rfl ?_ | refine wIf_yes (by first | assumption | omega) ?_ | refine wIf_no (by first | assumption | omega) ?_ | refine wIf_t rfl ?_ | refine wIf_f rfl ?_ | refine cond_yes rfl ?_ | refine cond_no rfl ?_)
      exact hk _ _ _ hO hv
theorem Raw_spec (hO : St H Γ) (hv : RdB Γ v xs) (hw : RdL Γ w [x]) (hx : RdB Γ x ys) (hl : xs.length + ys.length ≤ 10000000) (hk : MadeB Γ K (xs ++ ys)) : wCall P n_code_Raw [v, w] H K := by
  apply code_Raw_ok; unfold code_Raw
  refine Concat_spec (xss := [ys]) hO hw rfl (fun i h h' => by
    have : i = 0 := by simp at h; omega
    subst this; exact hx) (by simp; omega) (by simp) ?_
  intro H v1 c1 hO h1
  have h1 : OwnB v1 ys c1 := by simpa using h1
  obtain ⟨a, n, c, e1⟩ := hv.shape
  obtain ⟨a', n', c', e2⟩ := h1.rd.shape
  refine newSl_at hO (show (buildSliceC P 65 2).f [(0, v), (1, v1)] H = some (sl H.next 0 2 3, H.push [v, v1]) by rw [e1, e2]; exact bs65_2 _ _ _ _ _ _ _) ?_
  intro q H hO
  refine Concat_spec (xss := [xs, ys]) (vs := [v, v1]) hO ⟨q, 3, (Γ ++ outB v1 c1).length, true, rfl, by simp⟩ rfl (fun i h h' => ?_) (by simp; omega) (by simp) ?_
  · match i, h with
    | 0, _ => exact hv.app.app
    | 1, _ => exact h1.rd.app'.app
  · intro H' v' cs' hO' hv'
    have hv' : OwnB v' (xs ++ ys) cs' := by simpa using hv'
    exact hk _ _ _ (St.mid (St.mid (L := [(q, ⟨[v, v1], true⟩)]) hO')) hv'
/-- a number's bytes, the lowest first -/
def leN (y n : Nat) : List Int := (List.range y).map fun i => ((n / 256 ^ i % 256 : Nat) : Int)
theorem leN_len (y n : Nat) : (leN y n).length = y := by simp [leN]
theorem leN_succ (y n : Nat) : leN (y + 1) n = leN y n ++ [((n / 256 ^ y % 256 : Nat) : Int)] := by simp [leN, List.range_succ]
theorem div_pow (n y : Nat) : n / 256 ^ y / 2 ^ 8 = n / 256 ^ (y + 1) := by show n / 256 ^ y / 256 = _; rw [Nat.div_div_eq_div_mul, ← Nat.pow_succ]
theorem Fixed_spec {n size : Nat} (hO : St H Γ) (hv : RdB Γ v xs) (hl : xs.length ≤ 10000000) (hn : n < 2 ^ 64) (hs : size ≤ 8) (hk : MadeB Γ K (xs ++ leN size n)) : wCall P n_code_Fixed [v, uint .u64 n, int size] H K := by
  apply code_Fixed_ok; unfold code_Fixed
  refine Clone_spec hO hv (by omega) ?_
  intro H v' cs' hO hv'
  refine within_spec hs ?_
  refine code_Fixed_L0_ind (fun k l' H' => ∃ (y : Nat) (v' : Value) (cs' : List Value), y ≤ size ∧ k = size - y ∧ l' = [uint .u64 (n / 256 ^ y), nilSl, v', int size, int y] ∧ St H' (Γ ++ outB v' cs') ∧ OwnB v' (xs ++ leN y n) cs') _ _ ?_ size _ _ ⟨0, v', cs', by omega, by omega, by simp, hO, by simpa [leN] using hv'⟩
  clear hO hv'
  rintro k l' H' ⟨y, v', cs', hy, rfl, rfl, hO, hv'⟩
  unfold code_Fixed_L0
  try simp only [nth_zero, nth_succ]
  repeat (first | refine opP_i (bin_addi (by omega) (by omega)) ?_ | refine opP_i (bin_subi (by omega) (by omega)) ?_ | refine opP_i nilCheck_ptr ?_ | refine opP_i offPtr_ptr ?_ | refine opP_i bin_eql ?_ | refine opP_i bin_neq ?_ | refine opP_i bin_lss ?_ | refine opP_i bin_gtr ?_ | refine opP_i bin_leq ?_ | refine opP_i bin_geq ?_ | refine opP_i un_not ?_ | refine opP_i pick_true ?_ | refine opP_i pick_false ?_ | refine opP_i (pick_yes (by first | assumption | omega)) ?_ | refine opP_i (pick_no (by first | assumption | omega)) ?_ | refine opP_i (idxSl_ok (by omega) (by omega)) ?_ | refine opP_i (idxPtr_ok (by omega) (by omega)) ?_ | refine opW_i lenSl_sl ?_ | refine opW_i min_w ?_ | refine opW_i max_w ?_ | refine load_at hO 0 rfl rfl ?_ | refine load_at hO 1 rfl rfl ?_ | refine load_at hO 2 rfl rfl ?_ | refine load_at hO 3 rfl rfl ?_ | refine load_at hO 4 rfl rfl ?_ | refine load_at hO 5 rfl rfl ?_ | refine load_at hO 6 rfl rfl ?_ | refine load_at hO 7 rfl rfl ?_ | refine load_at hO 8 rfl rfl ?_ | refine load_at hO 9 rfl rfl ?_ | refine wIf_yes (by first | assumption | omega) ?_ | refine wIf_no (by first | assumption | omega) ?_ | refine wIf_t rfl ?_ | refine wIf_f rfl ?_ | refine cond_yes rfl ?_ | refine cond_no rfl ?_)
  refine wIf_dec (fun h => ?_) (fun h => ?_)
  · have hyl : y < size := by omega
    refine opW_i (cvU rfl) ?_
    refine newSl_at hO (bs46_1 _ _ _) ?_
    intro q H hO
    refine append_new (ys := [((n / 256 ^ y % 256 : Nat) : Int)]) hO hv' (by have := leN_len y n; simp [this]; omega) rfl (.inr rfl) ?_
    intro H v'' cs'' hO hv''
    refine opP_i (bin_shrU (n := 8) rfl (by decide)) ?_
    repeat (first | refine opP_i (bin_addi (by omega) (by omega)) ?_ | refine opP_i (bin_subi (by omega) (by omega)) ?_ | refine opP_i nilCheck_ptr ?_ | refine opP_i offPtr_ptr ?_ | refine opP_i bin_eql ?_ | refine opP_i bin_neq ?_ | refine opP_i bin_lss ?_ | refine opP_i bin_gtr ?_ | refine opP_i bin_leq ?_ | refine opP_i bin_geq ?_ | refine opP_i un_not ?_ | refine opP_i pick_true ?_ | refine opP_i pick_false ?_ | refine opP_i (pick_yes (by first | assumption | omega)) ?_ | refine opP_i (pick_no (by first | assumption | omega)) ?_ | refine opP_i (idxSl_ok (by omega) (by omega)) ?_ | refine opP_i (idxPtr_ok (by omega) (by omega)) ?_ | refine opW_i lenSl_sl ?_ | refine opW_i min_w ?_ | refine opW_i max_w ?_ | refine load_at hO 0 rfl rfl ?_ | refine load_at hO 1 rfl rfl ?_ | refine load_at hO 2 rfl rfl ?_ | refine load_at hO 3 rfl rfl ?_ | refine load_at hO 4 rfl rfl ?_ | refine load_at hO 5 rfl rfl ?_ | refine load_at hO 6 rfl rfl ?_ | refine load_at hO 7 rfl rfl ?_ | refine load_at hO 8 rfl rfl ?_ | refine load_at hO 9 rfl rfl ?_ | refine wIf_yes (by first | assumption | omega) ?_ | refine wIf_no (by first | assumption | omega) ?_ | refine wIf_t rfl ?_ | refine wIf_f rfl ?_ | refine cond_yes rfl ?_ | refine cond_no rfl ?_)
    refine ⟨_, by omega, y + 1, v'', cs'', by omega, rfl, ?_, hO, ?_⟩
    · rw [div_pow]; rfl
    · rw [leN_succ, ← List.append_assoc]; exact hv''
  · have e : y = size := by omega
    subst e
    repeat (first | refine opP_i (bin_addi (by omega) (by omega)) ?_ | refine opP_i (bin_subi (by omega) (by omega)) ?_ | refine opP_i nilCheck_ptr ?_ | refine opP_i offPtr_ptr ?_ | refine opP_i bin_eql ?_ | refine opP_i bin_neq ?_ | refine opP_i bin_lss ?_ | refine opP_i bin_gtr ?_ | refine opP_i bin_leq ?_ | refine opP_i bin_geq ?_ | refine opP_i un_not ?_ | refine opP_i pick_true ?_ | refine opP_i pick_false ?_ | refine opP_i (pick_yes (by first | assumption | omega)) ?_ | refine opP_i (pick_no (by first | assumption | omega)) ?_ | refine opP_i (idxSl_ok (by omega) (by omega)) ?_ | refine opP_i (idxPtr_ok (by omega) (by omega)) ?_ | refine opW_i lenSl_sl ?_ | refine opW_i min_w ?_ | refine opW_i max_w ?_ | refine load_at hO 0 rfl rfl ?_ | refine load_at hO 1 rfl rfl ?_ | refine load_at hO 2 rfl rfl ?_ | refine load_at hO 3 rfl rfl ?_ | refine load_at hO 4 rfl rfl ?_ | refine load_at hO 5 rfl rfl ?_ | refine load_at hO 6 rfl rfl ?_ | refine load_at hO 7 rfl rfl ?_ | refine load_at hO 8 rfl rfl ?_ | refine load_at hO 9 rfl rfl ?_ | refine wIf_yes (by first | assumption | omega) ?_ | refine wIf_no (by first | assumption | omega) ?_ | refine wIf_t rfl ?_ | refine wIf_f rfl ?_ | refine cond_yes rfl ?_ | refine cond_no rfl ?_)
    exact hk _ _ _ hO hv'
theorem ref05_size_spec {n : Nat} (hn : n ≤ 8) (hk : K (int n) H) : wCall P n_ref05_size [int n] H K := by
  apply ref05_size_ok; unfold ref05_size
  repeat (first | refine opP_i (bin_addi (by omega) (by omega)) ?_ | refine opP_i (bin_subi (by omega) (by omega)) ?_ | refine opP_i nilCheck_ptr ?_ | refine opP_i offPtr_ptr ?_ | refine opP_i bin_eql ?_ | refine opP_i bin_neq ?_ | refine opP_i bin_lss ?_ | refine opP_i bin_gtr ?_ | refine opP_i bin_leq ?_ | refine opP_i bin_geq ?_ | refine opP_i un_not ?_ | refine opP_i pick_true ?_ | refine opP_i pick_false ?_ | refine opP_i (pick_yes (by first | assumption | omega)) ?_ | refine opP_i (pick_no (by first | assumption | omega)) ?_ | refine opP_i (idxSl_ok (by omega) (by omega)) ?_ | refine opP_i (idxPtr_ok (by omega) (by omega)) ?_ | refine opW_i lenSl_sl ?_ | refine opW_i min_w ?_ | refine opW_i max_w ?_ | refine load_at hO 0 rfl rfl ?_ | refine load_at hO 1 rfl rfl ?_ | refine load_at hO 2 rfl rfl ?_ | refine load_at hO 3 rfl rfl ?_ | refine load_at hO 4 rfl rfl ?_ | refine load_at hO 5 rfl rfl ?_ | refine load_at hO 6 rfl rfl ?_ | refine load_at hO 7 rfl rfl ?_ | refine load_at hO 8 rfl rfl ?_ | refine load_at hO 9 rfl rfl ?_ | refine wIf_yes (by first | assumption | omega) ?_ | refine wIf_no (by first | assumption | omega) ?_ | refine wIf_t rfl ?_ | refine wIf_f rfl ?_ | refine cond_yes rfl ?_ | refine cond_no rfl ?_)
  exact hk
theorem ref05_Fixed_spec {n size : Nat} (hO : St H Γ) (hn : n < 2 ^ 64) (hs : size ≤ 8) (hk : MadeB Γ K (leN size n)) : wCall P n_ref05_Fixed [uint .u64 n, int size] H K := by
  apply ref05_Fixed_ok; unfold ref05_Fixed
  refine newSl_at hO (bs46_0 _) ?_
  intro q H hO
  refine ref05_Fixed_L0_ind (fun k l' H' => ∃ (y : Nat) (v' : Value) (cs' : List Value), y ≤ size ∧ k = size - y ∧ l' = [uint .u64 (n / 256 ^ y), int size, nilSl, v', int y] ∧ St H' (Γ ++ outB v' cs') ∧ OwnB v' (leN y n) cs') _ _ ?_ size _ _ ⟨0, sl q 0 0 3, [], by omega, by omega, by simp, hO, .inr ⟨q, .inr ⟨rfl, rfl⟩, rfl, Nat.zero_le _, rfl⟩⟩
  clear hO
  rintro k l' H' ⟨y, v', cs', hy, rfl, rfl, hO, hv'⟩
  unfold ref05_Fixed_L0
  try simp only [nth_zero, nth_succ]
  refine ref05_size_spec hs ?_
  repeat (first | refine opP_i (bin_addi (by omega) (by omega)) ?_ | refine opP_i (bin_subi (by omega) (by omega)) ?_ | refine opP_i nilCheck_ptr ?_ | refine opP_i offPtr_ptr ?_ | refine opP_i bin_eql ?_ | refine opP_i bin_neq ?_ | refine opP_i bin_lss ?_ | refine opP_i bin_gtr ?_ | refine opP_i bin_leq ?_ | refine opP_i bin_geq ?_ | refine opP_i un_not ?_ | refine opP_i pick_true ?_ | refine opP_i pick_false ?_ | refine opP_i (pick_yes (by first | assumption | omega)) ?_ | refine opP_i (pick_no (by first | assumption | omega)) ?_ | refine opP_i (idxSl_ok (by omega) (by omega)) ?_ | refine opP_i (idxPtr_ok (by omega) (by omega)) ?_ | refine opW_i lenSl_sl ?_ | refine opW_i min_w ?_ | refine opW_i max_w ?_ | refine load_at hO 0 rfl rfl ?_ | refine load_at hO 1 rfl rfl ?_ | refine load_at hO 2 rfl rfl ?_ | refine load_at hO 3 rfl rfl ?_ | refine load_at hO 4 rfl rfl ?_ | refine load_at hO 5 rfl rfl ?_ | refine load_at hO 6 rfl rfl ?_ | refine load_at hO 7 rfl rfl ?_ | refine load_at hO 8 rfl rfl ?_ | refine load_at hO 9 rfl rfl ?_ | refine wIf_yes (by first | assumption | omega) ?_ | refine wIf_no (by first | assumption | omega) ?_ | refine wIf_t rfl ?_ | refine wIf_f rfl ?_ | refine cond_yes rfl ?_ | refine cond_no rfl ?_)
  refine wIf_dec (fun h => ?_) (fun h => ?_)
  · have hyl : y < size := by omega
    have hb : n / 256 ^ y < 2 ^ 64 := Nat.lt_of_le_of_lt (Nat.div_le_self _ _) hn
    refine opP_i (bin_remU (b := 256) (by decide)) ?_
    refine opW_i (cvU rfl) ?_
    refine newSl_at hO (bs46_1 _ _ _) ?_
    intro q H hO
    rw [show n / 256 ^ y % 256 % szU .u8 = n / 256 ^ y % 256 from Nat.mod_mod _ _] at *
    refine append_new (ys := [((n / 256 ^ y % 256 : Nat) : Int)]) hO hv' (by have := leN_len y n; simp [this]; omega) rfl (.inr rfl) ?_
    intro H v'' cs'' hO hv''
    refine opP_i (bin_quoU (b := 256) rfl (by decide) hb) ?_
    repeat (first | refine opP_i (bin_addi (by omega) (by omega)) ?_ | refine opP_i (bin_subi (by omega) (by omega)) ?_ | refine opP_i nilCheck_ptr ?_ | refine opP_i offPtr_ptr ?_ | refine opP_i bin_eql ?_ | refine opP_i bin_neq ?_ | refine opP_i bin_lss ?_ | refine opP_i bin_gtr ?_ | refine opP_i bin_leq ?_ | refine opP_i bin_geq ?_ | refine opP_i un_not ?_ | refine opP_i pick_true ?_ | refine opP_i pick_false ?_ | refine opP_i (pick_yes (by first | assumption | omega)) ?_ | refine opP_i (pick_no (by first | assumption | omega)) ?_ | refine opP_i (idxSl_ok (by omega) (by omega)) ?_ | refine opP_i (idxPtr_ok (by omega) (by omega)) ?_ | refine opW_i lenSl_sl ?_ | refine opW_i min_w ?_ | refine opW_i max_w ?_ | refine load_at hO 0 rfl rfl ?_ | refine load_at hO 1 rfl rfl ?_ | refine load_at hO 2 rfl rfl ?_ | refine load_at hO 3 rfl rfl ?_ | refine load_at hO 4 rfl rfl ?_ | refine load_at hO 5 rfl rfl ?_ | refine load_at hO 6 rfl rfl ?_ | refine load_at hO 7 rfl rfl ?_ | refine load_at hO 8 rfl rfl ?_ | refine load_at hO 9 rfl rfl ?_ | refine wIf_yes (by first | assumption | omega) ?_ | refine wIf_no (by first | assumption | omega) ?_ | refine wIf_t rfl ?_ | refine wIf_f rfl ?_ | refine cond_yes rfl ?_ | refine cond_no rfl ?_)
    refine ⟨_, by omega, y + 1, v'', cs'', by omega, rfl, ?_, hO, ?_⟩
    · rw [Nat.div_div_eq_div_mul, ← Nat.pow_succ]; rfl
    · rw [leN_succ]; exact hv''
  · have e : y = size := by omega
    subst e
    repeat (first | refine opP_i (bin_addi (by omega) (by omega)) ?_ | refine opP_i (bin_subi (by omega) (by omega)) ?_ | refine opP_i nilCheck_ptr ?_ | refine opP_i offPtr_ptr ?_ | refine opP_i bin_eql ?_ | refine opP_i bin_neq ?_ | refine opP_i bin_lss ?_ | refine opP_i bin_gtr ?_ | refine opP_i bin_leq ?_ | refine opP_i bin_geq ?_ | refine opP_i un_not ?_ | refine opP_i pick_true ?_ | refine opP_i pick_false ?_ | refine opP_i (pick_yes (by first | assumption | omega)) ?_ | refine opP_i (pick_no (by first | assumption | omega)) ?_ | refine opP_i (idxSl_ok (by omega) (by omega)) ?_ | refine opP_i (idxPtr_ok (by omega) (by omega)) ?_ | refine opW_i lenSl_sl ?_ | refine opW_i min_w ?_ | refine opW_i max_w ?_ | refine load_at hO 0 rfl rfl ?_ | refine load_at hO 1 rfl rfl ?_ | refine load_at hO 2 rfl rfl ?_ | refine load_at hO 3 rfl rfl ?_ | refine load_at hO 4 rfl rfl ?_ | refine load_at hO 5 rfl rfl ?_ | refine load_at hO 6 rfl rfl ?_ | refine load_at hO 7 rfl rfl ?_ | refine load_at hO 8 rfl rfl ?_ | refine load_at hO 9 rfl rfl ?_ | refine wIf_yes (by first | assumption | omega) ?_ | refine wIf_no (by first | assumption | omega) ?_ | refine wIf_t rfl ?_ | refine wIf_f rfl ?_ | refine cond_yes rfl ?_ | refine cond_no rfl ?_)
    exact hk _ _ _ hO hv'
end T
