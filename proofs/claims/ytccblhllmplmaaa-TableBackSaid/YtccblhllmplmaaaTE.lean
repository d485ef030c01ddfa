/- texts of the proof, one behind the other -/
import Derived.Test.YtccblhllmplmaaaTD
set_option linter.unusedVariables false
set_option maxRecDepth 100000
namespace T
open Go Go.Ab
variable {H : Heap} {Γ : List (Nat × Blk)} {K : Value → Heap → Prop} {v w x : Value} {xs ys : List Int} {j p : Nat} {e : Int}
/-! a reader: what is left, and an error -/
def tkB (xs : List Int) (e : Int) (n : Nat) : List Int := if e = 0 ∧ n ≤ xs.length then xs.take n else []
def tkR (xs : List Int) (e : Int) (n : Nat) : List Int := if e = 0 ∧ n ≤ xs.length then xs.drop n else []
def tkE (xs : List Int) (e : Int) (n : Nat) : Int := if e = 0 ∧ n ≤ xs.length then 0 else if e = 0 then 51 else e
abbrev rdr (v : Value) (e : Int) : Blk := ⟨[v, int e], true⟩
theorem set_at {x' y : Nat × Blk} (h : Γ[j]? = some x') : (Γ.set j y)[j]? = some y := List.getElem?_set_self (List.getElem?_eq_some_iff.1 h).1
theorem rd_set {b' : Blk} {s : Value} {p' : Nat} (h : RdB Γ v xs) (hj : Γ[j]? = some (p, rdr s e)) (hs : ∃ a n c, s = .slice a n c) : RdB (Γ.set j (p', b')) v xs := by
  rcases h with h | ⟨p2, o, c, h1, h2, h3 | ⟨j', b, h3, h4⟩⟩
  · exact .inl h
  · exact .inr ⟨p2, o, c, h1, h2, .inl h3⟩
  · by_cases hjj : j' = j
    · subst hjj
      rw [hj] at h3
      cases h3
      obtain ⟨a, n, c', rfl⟩ := hs
      refine .inr ⟨_, o, c, h1, h2, .inl ?_⟩
      match xs, o, h4 with
      | [], _, _ => rfl
      | y :: r, 0, h4 => simp at h4
      | y :: r, 1, h4 => simp at h4
      | y :: r, o + 2, h4 => simp at h4
    · exact .inr ⟨p2, o, c, h1, h2, .inr ⟨j', b, by rw [List.getElem?_set_ne (fun h => hjj h.symm)]; exact h3, h4⟩⟩
theorem b132 (a : Option Addr) (n c : Nat) : (buildC P 132).f [(0, .slice a n c)] = some (agg [.slice a n c, int 0]) := by kernel_rfl
theorem New_spec (hO : St H Γ) (hv : RdB Γ v xs) (hk : ∀ H' p, St H' (Γ ++ [(p, rdr v 0)]) → K (ptr p 0) H') : wCall P n_code_New [v] H K := by
  apply code_New_ok; unfold code_New
  obtain ⟨a, n, c, rfl⟩ := RdB.shape hv
  refine opP_i (b132 _ _ _) ?_
  refine new_at hO ?_
  intro p H hO
  exact hk _ _ hO
theorem fail_spec {x : Int} (hO : St H Γ) (hj : Γ[j]? = some (p, rdr v e)) (hk : ∀ H', St H' (Γ.set j (p, rdr nilSl (if e = 0 then x else e))) → K (.tuple [].toArray) H') : wCall P n_code_Reader_fail [ptr p 0, int x] H K := by
  apply code_Reader_fail_ok; unfold code_Reader_fail
  refine opP_i nilCheck_ptr ?_
  refine opP_i offPtr_ptr ?_
  refine load_at hO j hj rfl ?_
  refine opP_i bin_eql ?_
  refine wIf_dec (fun h => ?_) (fun h => ?_)
  · rw [if_pos h] at hk
    refine opP_i nilCheck_ptr ?_
    refine opP_i offPtr_ptr ?_
    refine store1_at hO j hj rfl (show 1 < 2 by omega) (show _ = [v, int x] from rfl) ?_
    intro H hO
    refine opP_i nilCheck_ptr ?_
    refine opP_i offPtr_ptr ?_
    refine store1_at hO j (set_at hj) rfl (show 0 < 2 by omega) (show _ = [nilSl, int x] from rfl) ?_
    intro H hO
    rw [List.set_set] at hO
    exact hk _ hO
  · rw [if_neg h] at hk
    refine opP_i nilCheck_ptr ?_
    refine opP_i offPtr_ptr ?_
    refine store1_at hO j hj rfl (show 0 < 2 by omega) (show _ = [nilSl, int e] from rfl) ?_
    intro H hO
    exact hk _ hO
/-- what can be read of one slice where another one can be read -/
abbrev Inh (v : Value) (xs : List Int) (v' : Value) (ys : List Int) : Prop := ∀ Γ' : List (Nat × Blk), RdB Γ' v xs → RdB Γ' v' ys
theorem Inh.none {v : Value} {xs : List Int} : Inh v xs nilSl [] := fun _ _ => .nil
theorem slice_hi (h : RdB Γ v xs) {n : Nat} (hn : n ≤ xs.length) : ∃ v', sliceSl 1 v none (some (int n)) none = some v' ∧ Inh v xs v' (xs.take n) := by
  rcases h with ⟨rfl, rfl⟩ | ⟨p, o, c, rfl, hc, _⟩
  · have : n = 0 := by simpa using hn
    subst this
    exact ⟨nilSl, rfl, .none⟩
  · obtain ⟨c', hc', he⟩ := slice_to (o := o) (p := p) (n := xs.length) (h := (n : Int)) (by omega) (by omega) hc
    rw [Int.toNat_natCast] at he
    refine ⟨_, he, fun Γ' h => ?_⟩
    rcases h with ⟨h, _⟩ | ⟨p', o', c'', heq, _, h⟩
    · cases h
    cases heq
    refine .inr ⟨p, o, c', by rw [List.length_take, Nat.min_eq_left hn], hc', ?_⟩
    rcases h with rfl | ⟨j, b, h1, h2⟩
    · exact .inl (by simp)
    · refine .inr ⟨j, b, h1, ?_⟩
      rw [List.length_take, Nat.min_eq_left hn]
      have := congrArg (List.take n) h2
      rw [List.take_take, Nat.min_eq_left hn] at this
      rw [this, by8, by8, List.map_take]
theorem slice_lo (h : RdB Γ v xs) {n : Nat} (hn : n ≤ xs.length) : ∃ v', sliceSl 1 v (some (int n)) none none = some v' ∧ Inh v xs v' (xs.drop n) := by
  rcases h with ⟨rfl, rfl⟩ | ⟨p, o, c, rfl, hc, _⟩
  · have : n = 0 := by simpa using hn
    subst this
    exact ⟨nilSl, rfl, .none⟩
  · have hb : boundLo xs.length (some (int (n : Int))) = some n := by
      show (match leB 0 (n : Int) with | true => (match Nat.ble (n : Int).toNat xs.length with | true => some (n : Int).toNat | false => none) | false => none) = _
      rw [leB_eq, decide_eq_true (by omega)]
      simp only [Int.toNat_natCast]
      rw [Nat.ble_eq_true_of_le (by omega)]
    have he : ∃ c', (c' = 2 ∨ c' = 3) ∧ sliceSl 1 (sl p o xs.length c) (some (int n)) none none = some (sl p (o + n) (xs.length - n) c') := by
      rcases hc with rfl | rfl
      · refine ⟨2, .inl rfl, ?_⟩
        unfold sliceSl
        simp only [boundHi, hb]
        simp [maxOk, reslice]
      · refine ⟨3, .inr rfl, ?_⟩
        unfold sliceSl
        simp only [boundHi, hb]
        simp [maxOk, reslice]
    obtain ⟨c', hc', he⟩ := he
    refine ⟨_, he, fun Γ' h => ?_⟩
    rcases h with ⟨h, _⟩ | ⟨p', o', c'', heq, _, h⟩
    · cases h
    cases heq
    refine .inr ⟨p, o + n, c', by rw [List.length_drop], hc', ?_⟩
    rcases h with rfl | ⟨j, b, h1, h2⟩
    · exact .inl (by simp)
    · refine .inr ⟨j, b, h1, ?_⟩
      have := congrArg (List.drop n) h2
      rw [List.drop_take, List.drop_drop] at this
      rw [List.length_drop, this, by8, by8, List.map_drop]
theorem take_spec {n : Nat} (hO : St H Γ) (hj : Γ[j]? = some (p, rdr v e)) (hv : RdB Γ v xs) (hn : n ≤ 1000000)
    (hk : ∀ H' v1 v2, St H' (Γ.set j (p, rdr v2 (tkE xs e n))) → Inh v xs v1 (tkB xs e n) → Inh v xs v2 (tkR xs e n) → K v1 H') : wCall P n_code_Reader_take [ptr p 0, int n] H K := by
  apply code_Reader_take_ok; unfold code_Reader_take
  repeat (first | refine opP_i (by first | exact qa | exact qs | exact nilCheck_ptr | exact offPtr_ptr | exact bin_eql | exact bin_neq | exact bin_lss | exact bin_gtr | exact bin_leq | exact bin_geq | exact un_not | exact pick_true | exact pick_false | exact qy | exact qn | exact qi | exact qj) ?_ | refine opW_i (by first | exact lenSl_sl | exact min_w | exact max_w) ?_ | refine wy ?_ | refine wn ?_ | refine wIf_t rfl ?_ | refine wIf_f rfl ?_ | refine cond_yes rfl ?_ | refine cond_no rfl ?_)
  rw [show max (n : Int) 0 = n by omega]
  refine join_with (fun l' H' => l' = [ptr p 0, int n, .bool (decide (¬ (e = 0 ∧ n ≤ xs.length)))] ∧ St H' Γ) ?_ ?_
  · refine opP_i nilCheck_ptr ?_
    refine opP_i offPtr_ptr ?_
    refine load_at hO j hj rfl ?_
    refine opP_i bin_neq ?_
    refine wIf_dec (fun h => ?_) (fun h => ?_)
    · repeat (first | refine opP_i (by first | exact qa | exact qs | exact nilCheck_ptr | exact offPtr_ptr | exact bin_eql | exact bin_neq | exact bin_lss | exact bin_gtr | exact bin_leq | exact bin_geq | exact un_not | exact pick_true | exact pick_false | exact qy | exact qn | exact qi | exact qj) ?_ | refine opW_i (by first | exact lenSl_sl | exact min_w | exact max_w) ?_ | refine wy ?_ | refine wn ?_ | refine wIf_t rfl ?_ | refine wIf_f rfl ?_ | refine cond_yes rfl ?_ | refine cond_no rfl ?_)
      exact ⟨by rw [decide_eq_true (show ¬ (e = 0 ∧ n ≤ xs.length) from fun h' => h h'.1)], hO⟩
    · refine opP_i nilCheck_ptr ?_
      refine opP_i offPtr_ptr ?_
      refine load_at hO j hj rfl ?_
      refine opW_i hv.lenSl ?_
      repeat (first | refine opP_i (by first | exact qa | exact qs | exact nilCheck_ptr | exact offPtr_ptr | exact bin_eql | exact bin_neq | exact bin_lss | exact bin_gtr | exact bin_leq | exact bin_geq | exact un_not | exact pick_true | exact pick_false | exact qy | exact qn | exact qi | exact qj) ?_ | refine opW_i (by first | exact lenSl_sl | exact min_w | exact max_w) ?_ | refine wy ?_ | refine wn ?_ | refine wIf_t rfl ?_ | refine wIf_f rfl ?_ | refine cond_yes rfl ?_ | refine cond_no rfl ?_)
      refine ⟨?_, hO⟩
      rw [decide_eq_decide.2 (show (xs.length : Int) < n ↔ ¬ (e = 0 ∧ n ≤ xs.length) by omega)]
  clear hO
  rintro l' H ⟨rfl, hO⟩
  try simp only [nth_zero, nth_succ]
  refine wIf_dec (fun h => ?_) (fun h => ?_)
  · unfold tkB tkR tkE at hk
    rw [if_neg h, if_neg h, if_neg h] at hk
    refine fail_spec hO hj ?_
    intro H hO
    exact hk _ nilSl nilSl hO .none .none
  · have h := Decidable.not_not.1 h
    unfold tkB tkR tkE at hk
    rw [if_pos h, if_pos h, if_pos h] at hk
    obtain ⟨v1, e1, r1⟩ := slice_hi hv h.2
    obtain ⟨v2, e2, r2⟩ := slice_lo hv h.2
    refine opP_i nilCheck_ptr ?_
    refine opP_i offPtr_ptr ?_
    refine load_at hO j hj rfl ?_
    refine opP_i e1 ?_
    refine opP_i nilCheck_ptr ?_
    refine opP_i offPtr_ptr ?_
    refine load_at hO j hj rfl ?_
    refine opP_i e2 ?_
    refine opP_i nilCheck_ptr ?_
    refine opP_i offPtr_ptr ?_
    obtain ⟨a2, n2, c2, rfl⟩ := RdB.shape (r2 _ hv)
    refine store1_at hO j hj rfl (show 0 < 2 by omega) (show _ = [.slice a2 n2 c2, int e] from rfl) ?_
    intro H hO
    rw [h.1] at hO
    exact hk _ v1 _ hO r1 r2
end T
set_option linter.unusedVariables false
set_option maxRecDepth 100000
namespace T
open Go Go.Ab
variable {H : Heap} {Γ : List (Nat × Blk)} {K : Value → Heap → Prop} {v w x : Value} {xs ys : List Int} {j p : Nat} {e : Int}
theorem wT_mono {t : Task} {K K' : Value → Heap → Prop} (h : wT P t K) (hk : ∀ v H, K v H → K' v H) : wT P t K' := by
  obtain ⟨n, ex, v, H', h1, h2⟩ := h
  exact ⟨n, ex, v, H', h1, hk _ _ h2⟩
/-- from the last byte to the first -/
theorem Backward1_spec [L : LpC] {l q jq : Nat} {G : Nat → List (Nat × Blk)} (hq : ∀ k, (G k)[jq]? = some (q, ⟨[v], true⟩)) (hv : ∀ k, RdB (G k) v xs) (hx : xs.length ≤ 1000000)
    (hr : ∀ k (h : k < xs.length) H, St H (G (k + 1)) → wT P (.round l [int k, .int .u8 xs[k]] H) fun b H' => b = .bool true ∧ St H' (G k)) (hO : St H (G xs.length)) (hk : ∀ H', St H' (G 0) → K (.tuple [].toArray) H') : wCall P n_slices_Backward_byte_byte_1 [yieldV l, ptr q 0] H K := by
  apply slices_Backward_byte_byte_1_ok; unfold slices_Backward_byte_byte_1
  refine load_at hO jq (hq _) rfl ?_
  refine opW_i (hv xs.length).lenSl ?_
  repeat (first | refine opP_i (by first | exact qa | exact qs | exact nilCheck_ptr | exact offPtr_ptr | exact bin_eql | exact bin_neq | exact bin_lss | exact bin_gtr | exact bin_leq | exact bin_geq | exact un_not | exact pick_true | exact pick_false | exact qy | exact qn | exact qi | exact qj) ?_ | refine opW_i (by first | exact lenSl_sl | exact min_w | exact max_w) ?_ | refine wy ?_ | refine wn ?_ | refine wIf_t rfl ?_ | refine wIf_f rfl ?_ | refine cond_yes rfl ?_ | refine cond_no rfl ?_)
  refine slices_Backward_byte_byte_1_L0_ind (fun k l' H' => ∃ y : Nat, y ≤ xs.length ∧ k = y ∧ l' = [yieldV l, ptr q 0, int ((y : Int) - 1)] ∧ St H' (G y)) _ _ ?_ xs.length _ _ ⟨xs.length, by omega, rfl, rfl, hO⟩
  clear hO
  rintro k l' H' ⟨y, hy, rfl, rfl, hO⟩
  unfold slices_Backward_byte_byte_1_L0
  try simp only [nth_zero, nth_succ]
  repeat (first | refine opP_i (by first | exact qa | exact qs | exact nilCheck_ptr | exact offPtr_ptr | exact bin_eql | exact bin_neq | exact bin_lss | exact bin_gtr | exact bin_leq | exact bin_geq | exact un_not | exact pick_true | exact pick_false | exact qy | exact qn | exact qi | exact qj) ?_ | refine opW_i (by first | exact lenSl_sl | exact min_w | exact max_w) ?_ | refine wy ?_ | refine wn ?_ | refine wIf_t rfl ?_ | refine wIf_f rfl ?_ | refine cond_yes rfl ?_ | refine cond_no rfl ?_)
  refine wIf_dec (fun h => ?_) (fun h => ?_)
  · obtain ⟨z, rfl⟩ : ∃ z : Nat, k = z + 1 := ⟨k - 1, by omega⟩
    have hz : z < xs.length := by omega
    have ez : ((z + 1 : Nat) : Int) - 1 = z := by omega
    rw [ez] at *
    refine load_at hO jq (hq _) rfl ?_
    obtain ⟨p2, o, c, j2, b, rfl, h1, h2⟩ := (hv (z + 1)).at hz
    repeat (first | refine opP_i (by first | exact qa | exact qs | exact nilCheck_ptr | exact offPtr_ptr | exact bin_eql | exact bin_neq | exact bin_lss | exact bin_gtr | exact bin_leq | exact bin_geq | exact un_not | exact pick_true | exact pick_false | exact qy | exact qn | exact qi | exact qj) ?_ | refine opW_i (by first | exact lenSl_sl | exact min_w | exact max_w) ?_ | refine wy ?_ | refine wn ?_ | refine wIf_t rfl ?_ | refine wIf_f rfl ?_ | refine cond_yes rfl ?_ | refine cond_no rfl ?_)
    refine load_at hO j2 h1 (v := .int .u8 xs[z]) (by simpa using h2) ?_
    refine yield_at (wT_mono (hr z hz _ hO) ?_)
    rintro b2 H2 ⟨rfl, hO2⟩
    repeat (first | refine opP_i (by first | exact qa | exact qs | exact nilCheck_ptr | exact offPtr_ptr | exact bin_eql | exact bin_neq | exact bin_lss | exact bin_gtr | exact bin_leq | exact bin_geq | exact un_not | exact pick_true | exact pick_false | exact qy | exact qn | exact qi | exact qj) ?_ | refine opW_i (by first | exact lenSl_sl | exact min_w | exact max_w) ?_ | refine wy ?_ | refine wn ?_ | refine wIf_t rfl ?_ | refine wIf_f rfl ?_ | refine cond_yes rfl ?_ | refine cond_no rfl ?_)
    exact ⟨_, by omega, z, by omega, rfl, rfl, hO2⟩
  · have : k = 0 := by omega
    subst this
    repeat (first | refine opP_i (by first | exact qa | exact qs | exact nilCheck_ptr | exact offPtr_ptr | exact bin_eql | exact bin_neq | exact bin_lss | exact bin_gtr | exact bin_leq | exact bin_geq | exact un_not | exact pick_true | exact pick_false | exact qy | exact qn | exact qi | exact qj) ?_ | refine opW_i (by first | exact lenSl_sl | exact min_w | exact max_w) ?_ | refine wy ?_ | refine wn ?_ | refine wIf_t rfl ?_ | refine wIf_f rfl ?_ | refine cond_yes rfl ?_ | refine cond_no rfl ?_)
    exact hk _ hO
/-- a number of bytes, the lowest first -/
def leV : List Int → Nat
  | [] => 0
  | x :: r => x.toNat + 256 * leV r
theorem leV_lt : ∀ (xs : List Int), (∀ x ∈ xs, 0 ≤ x ∧ x ≤ 255) → leV xs < 256 ^ xs.length
  | [], _ => by simp [leV]
  | x :: r, h => by
    have h1 := leV_lt r fun y hy => h y (List.mem_cons_of_mem _ hy)
    have h2 := h x List.mem_cons_self
    simp only [leV, List.length_cons, Nat.pow_succ]
    omega
theorem leV_drop {k : Nat} (h : k < xs.length) : leV (xs.drop k) = xs[k].toNat + 256 * leV (xs.drop (k + 1)) := by
  rw [List.drop_eq_getElem_cons h]; rfl
theorem or_low {a b : Nat} (hb : b < 256) : (a * 2 ^ 8) ||| b = b + 256 * a := by
  rw [Nat.mul_comm, ← Nat.two_pow_add_eq_or_of_lt (i := 8) hb]; omega
theorem RdB.bytes (hb : ∀ x ∈ xs, 0 ≤ x ∧ x ≤ 255) (n : Nat) (e : Int) : ∀ x ∈ tkB xs e n, 0 ≤ x ∧ x ≤ 255 := by
  unfold tkB
  split
  · exact fun x hx => hb x (List.mem_of_mem_take hx)
  · simp
theorem tkB_len (xs : List Int) (e : Int) (n : Nat) : (tkB xs e n).length ≤ n := by
  unfold tkB
  split
  · rw [List.length_take]; omega
  · simp
theorem fixed_body [L : LpC] {q5 m : Nat} {b : Int} {y : Nat × Blk} {X : Heap → Prop} (hO : St H (Γ ++ [(q5, ⟨[uint .u64 m], true⟩), y])) (hm : m < 256 ^ 7) (hb : 0 ≤ b ∧ b ≤ 255) (hk : ∀ H', St H' (Γ ++ [(q5, ⟨[uint .u64 (b.toNat + 256 * m)], true⟩), y]) → X H') :
    opW (loadOne (ptr q5 0) H) fun t15 H2 => opP ((binC P .shl 30 true).f t15 (.int .u64 8)) fun t16 => opW (cvInt .u64 (.int .u8 b) H2) fun t18 H5 => opP ((binC P .or 30 false).f t16 t18) fun t19 => opW (storeTo 1 (ptr q5 0) t19 H5) fun u H8 => X H8 := by
  refine load_at hO (Γ.length + 0) (at_r rfl) rfl ?_
  refine opP_i (bin_shlU (n := 8) rfl (by decide)) ?_
  rw [uint_of hb.1]
  refine opW_i (cvU rfl) ?_
  have h2 : m * 2 ^ 8 % szU .u64 = m * 2 ^ 8 := Nat.mod_eq_of_lt (show m * 2 ^ 8 < 2 ^ 64 by omega)
  have h3 : b.toNat % szU .u64 = b.toNat := Nat.mod_eq_of_lt (show b.toNat < 2 ^ 64 by omega)
  rw [h2, h3]
  refine opP_i (bin_orU rfl (show m * 2 ^ 8 < 2 ^ 64 by omega) (show b.toNat < 2 ^ 64 by omega)) ?_
  rw [or_low (by omega)]
  refine store1_at hO (Γ.length + 0) (at_r rfl) rfl (show 0 < 1 by omega) (show _ = [uint .u64 (b.toNat + 256 * m)] from rfl) ?_
  intro H hO
  exact hk _ hO.set_r
set_option maxHeartbeats 1000000 in
theorem rFixed_spec {k : Nat} (hk8 : k ≤ 8) (hO : St H Γ) (hj : Γ[j]? = some (p, rdr v e)) (hv : RdB Γ v xs) (hb : ∀ x ∈ xs, 0 ≤ x ∧ x ≤ 255)
    (hk : ∀ H' v2, St H' (Γ.set j (p, rdr v2 (tkE xs e k))) → Inh v xs v2 (tkR xs e k) → K (uint .u64 (leV (tkB xs e k))) H') : wCall P n_code_Reader_Fixed [ptr p 0, int k] H K := by
  apply code_Reader_Fixed_ok; unfold code_Reader_Fixed
  refine new_at hO ?_
  intro q5 H hO
  have hjl := (List.getElem?_eq_some_iff.1 hj).1
  refine store1_at hO (Γ.length + 0) (at_r rfl) rfl (show 0 < 1 by omega) (show _ = [uint .u64 0] from rfl) ?_
  intro H hO
  replace hO : St H (Γ ++ [(q5, ⟨[uint .u64 0], true⟩)]) := hO.set_r
  refine within_spec hk8 ?_
  refine take_spec hO (at_l hj) hv.app (by omega) ?_
  intro H v1 v2 hO r1 r2
  rw [List.set_append_left _ _ hjl] at hO
  have hbb := RdB.bytes hb k e
  have hbl := tkB_len xs e k
  have hk := hk (v2 := v2)
  have r1 := r1 _ (rd_set (b' := rdr v2 (tkE xs e k)) (p' := p) hv hj (RdB.shape hv))
  generalize Γ.set j (p, rdr v2 (tkE xs e k)) = Γ2 at *
  generalize tkB xs e k = bs at *
  apply slices_Backward_byte_byte_ok
  unfold slices_Backward_byte_byte
  refine new_at hO ?_
  intro q H9 hO
  obtain ⟨a1, n1, c1, e1⟩ := RdB.shape r1
  have hc1 : cellsL v1 = [v1] := by rw [e1]; rfl
  rw [hc1, List.append_assoc] at hO
  -- the range
  have G0 : ∀ m : Nat, RdB (Γ2 ++ [(q5, ⟨[uint .u64 m], true⟩), (q, ⟨[v1], true⟩)]) v1 bs := fun m => r1.app
  refine range_at (L := lp0) hO (f := n_slices_Backward_byte_byte_1) (args := [yieldV (Nat.succ H9.next), ptr q 0]) rfl ?_
  intro T hT hag H0 hO0
  generalize hL : lpc (Nat.succ H9.next) _ lp0 = L at hO0
  refine Backward1_spec (L := L) (l := Nat.succ H9.next) (jq := Γ2.length + 1) (G := fun m => Γ2 ++ [(q5, ⟨[uint .u64 (leV (bs.drop m))], true⟩), (q, ⟨[v1], true⟩)]) (fun m => at_r rfl) (fun m => G0 _) (by omega) ?_ (by rw [List.drop_of_length_le (Nat.le_refl _)]; exact hO0) ?_
  · intro m hm H hOm
    subst hL
    refine round_at (n := 21) hOm hT hag rfl (by decide) ?_
    rw [code_Reader_Fixed_R0_eq]
    unfold code_Reader_Fixed_R0
    refine wBegin_at hOm ?_
    intro H2 hO2
    have hx := hbb _ (List.getElem_mem hm)
    have hlt := leV_lt (bs.drop (m + 1)) fun y hy => hbb y (List.mem_of_mem_drop hy)
    have hpw : 256 ^ (bs.drop (m + 1)).length ≤ 256 ^ 7 := Nat.pow_le_pow_right (by omega) (by rw [List.length_drop]; omega)
    refine fixed_body (L := lpc (Nat.succ H9.next) _ lp0) hO2 (Nat.lt_of_lt_of_le hlt hpw) hx ?_
    intro H3 hO3
    refine wEnd_at hO3 ?_
    intro H4 hO4
    refine ⟨rfl, ?_⟩
    rw [leV_drop hm]
    exact hO4
  · intro H2 hO2
    subst hL
    refine ⟨.ready, _, by simp, hO2, ?_⟩
    intro H3 hO3
    show opW _ _
    refine load_at hO3 (Γ2.length + 0) (at_r rfl) rfl ?_
    exact hk _ hO3.left r2
end T
set_option linter.unusedVariables false
set_option maxRecDepth 100000
namespace T
open Go Go.Ab
variable {H : Heap} {Γ : List (Nat × Blk)} {K : Value → Heap → Prop} {v w x : Value} {xs ys : List Int} {j p : Nat} {e : Int}
/-- what a reader has become -/
abbrev rdN (Γ : List (Nat × Blk)) (j p : Nat) (xs : List Int) (e : Int) (n : Nat) (v2 : Value) : List (Nat × Blk) := Γ.set j (p, rdr v2 (tkE xs e n))
theorem rRaw_spec {n : Nat} (hO : St H Γ) (hj : Γ[j]? = some (p, rdr v e)) (hv : RdB Γ v xs) (hn : n ≤ 1000000) (hx : xs.length ≤ 1000000)
    (hk : ∀ H' v2 v' cs', St H' (rdN Γ j p xs e n v2 ++ outB v' cs') → Inh v xs v2 (tkR xs e n) → OwnB v' (tkB xs e n) cs' → K v' H') : wCall P n_code_Reader_Raw [ptr p 0, int n] H K := by
  apply code_Reader_Raw_ok; unfold code_Reader_Raw
  refine take_spec hO hj hv hn ?_
  intro H v1 v2 hO r1 r2
  have hl := tkB_len xs e n
  refine Clone_spec hO (r1 _ (rd_set (b' := rdr v2 (tkE xs e n)) (p' := p) hv hj (RdB.shape hv))) (by omega) ?_
  intro H' v' cs' hO' hv'
  exact hk H' v2 v' cs' hO' r2 hv'
theorem rErr_spec (hO : St H Γ) (hj : Γ[j]? = some (p, rdr v e)) (hk : K (int e) H) : wCall P n_code_Reader_Err [ptr p 0] H K := by
  apply code_Reader_Err_ok; unfold code_Reader_Err
  refine opP_i nilCheck_ptr ?_
  refine opP_i offPtr_ptr ?_
  refine load_at hO j hj rfl ?_
  exact hk
def rEnd (xs : List Int) (e : Int) : Int := if e = 0 ∧ 0 < xs.length then 52 else e
theorem rEnd_spec (hO : St H Γ) (hj : Γ[j]? = some (p, rdr v e)) (hv : RdB Γ v xs) (hk : K (int (rEnd xs e)) H) : wCall P n_code_Reader_End [ptr p 0] H K := by
  apply code_Reader_End_ok; unfold code_Reader_End
  refine opP_i nilCheck_ptr ?_
  refine opP_i offPtr_ptr ?_
  refine load_at hO j hj rfl ?_
  refine opP_i bin_eql ?_
  unfold rEnd at hk
  refine wIf_dec (fun h => ?_) (fun h => ?_)
  · refine opP_i nilCheck_ptr ?_
    refine opP_i offPtr_ptr ?_
    refine load_at hO j hj rfl ?_
    refine opW_i hv.lenSl ?_
    repeat (first | refine opP_i (by first | exact qa | exact qs | exact nilCheck_ptr | exact offPtr_ptr | exact bin_eql | exact bin_neq | exact bin_lss | exact bin_gtr | exact bin_leq | exact bin_geq | exact un_not | exact pick_true | exact pick_false | exact qy | exact qn | exact qi | exact qj) ?_ | refine opW_i (by first | exact lenSl_sl | exact min_w | exact max_w) ?_ | refine wy ?_ | refine wn ?_ | refine wIf_t rfl ?_ | refine wIf_f rfl ?_ | refine cond_yes rfl ?_ | refine cond_no rfl ?_)
    refine wIf_dec (fun h2 => ?_) (fun h2 => ?_)
    · rw [if_pos ⟨h, by omega⟩] at hk
      exact hk
    · rw [if_neg (by omega)] at hk
      refine opP_i nilCheck_ptr ?_
      refine opP_i offPtr_ptr ?_
      refine load_at hO j hj rfl ?_
      exact hk
  · repeat (first | refine opP_i (by first | exact qa | exact qs | exact nilCheck_ptr | exact offPtr_ptr | exact bin_eql | exact bin_neq | exact bin_lss | exact bin_gtr | exact bin_leq | exact bin_geq | exact un_not | exact pick_true | exact pick_false | exact qy | exact qn | exact qi | exact qj) ?_ | refine opW_i (by first | exact lenSl_sl | exact min_w | exact max_w) ?_ | refine wy ?_ | refine wn ?_ | refine wIf_t rfl ?_ | refine wIf_f rfl ?_ | refine cond_yes rfl ?_ | refine cond_no rfl ?_)
    rw [if_neg (fun h' => h h'.1)] at hk
    refine load_at hO j hj rfl ?_
    exact hk
theorem ref05_End_spec (hO : St H Γ) (hj : Γ[j]? = some (p, rdr v e)) (hv : RdB Γ v xs) (hk : K (int (rEnd xs e)) H) : wCall P n_ref05_End [ptr p 0] H K := by
  apply ref05_End_ok; unfold ref05_End
  refine opP_i nilCheck_ptr ?_
  refine opP_i offPtr_ptr ?_
  refine load_at hO j hj rfl ?_
  refine opP_i bin_eql ?_
  unfold rEnd at hk
  refine wIf_dec (fun h => ?_) (fun h => ?_)
  · refine opP_i nilCheck_ptr ?_
    refine opP_i offPtr_ptr ?_
    refine load_at hO j hj rfl ?_
    refine opW_i hv.lenSl ?_
    repeat (first | refine opP_i (by first | exact qa | exact qs | exact nilCheck_ptr | exact offPtr_ptr | exact bin_eql | exact bin_neq | exact bin_lss | exact bin_gtr | exact bin_leq | exact bin_geq | exact un_not | exact pick_true | exact pick_false | exact qy | exact qn | exact qi | exact qj) ?_ | refine opW_i (by first | exact lenSl_sl | exact min_w | exact max_w) ?_ | refine wy ?_ | refine wn ?_ | refine wIf_t rfl ?_ | refine wIf_f rfl ?_ | refine cond_yes rfl ?_ | refine cond_no rfl ?_)
    refine wIf_dec (fun h2 => ?_) (fun h2 => ?_)
    · rw [if_pos ⟨h, by omega⟩] at hk
      exact hk
    · rw [if_neg (by omega)] at hk
      refine opP_i nilCheck_ptr ?_
      refine opP_i offPtr_ptr ?_
      refine load_at hO j hj rfl ?_
      exact hk
  · repeat (first | refine opP_i (by first | exact qa | exact qs | exact nilCheck_ptr | exact offPtr_ptr | exact bin_eql | exact bin_neq | exact bin_lss | exact bin_gtr | exact bin_leq | exact bin_geq | exact un_not | exact pick_true | exact pick_false | exact qy | exact qn | exact qi | exact qj) ?_ | refine opW_i (by first | exact lenSl_sl | exact min_w | exact max_w) ?_ | refine wy ?_ | refine wn ?_ | refine wIf_t rfl ?_ | refine wIf_f rfl ?_ | refine cond_yes rfl ?_ | refine cond_no rfl ?_)
    rw [if_neg (fun h' => h h'.1)] at hk
    refine load_at hO j hj rfl ?_
    exact hk
set_option maxHeartbeats 1000000 in
theorem ref05_Raw_spec {n : Nat} (hO : St H Γ) (hj : Γ[j]? = some (p, rdr v e)) (hv : RdB Γ v xs) (hn : n ≤ 1000000) (hx : xs.length ≤ 1000000)
    (hk : ∀ H' v2 v' cs', St H' (rdN Γ j p xs e n v2 ++ outB v' cs') → Inh v xs v2 (tkR xs e n) → OwnB v' (tkB xs e n) cs' → K v' H') : wCall P n_ref05_Raw [ptr p 0, int n] H K := by
  apply ref05_Raw_ok; unfold ref05_Raw
  have hjl := (List.getElem?_eq_some_iff.1 hj).1
  refine join_with (fun l' H' => l' = [ptr p 0, int n] ∧ St H' Γ) ?_ ?_
  · repeat (first | refine opP_i (by first | exact qa | exact qs | exact nilCheck_ptr | exact offPtr_ptr | exact bin_eql | exact bin_neq | exact bin_lss | exact bin_gtr | exact bin_leq | exact bin_geq | exact un_not | exact pick_true | exact pick_false | exact qy | exact qn | exact qi | exact qj) ?_ | refine opW_i (by first | exact lenSl_sl | exact min_w | exact max_w) ?_ | refine wy ?_ | refine wn ?_ | refine wIf_t rfl ?_ | refine wIf_f rfl ?_ | refine cond_yes rfl ?_ | refine cond_no rfl ?_)
    exact ⟨rfl, hO⟩
  clear hO
  rintro l' H ⟨rfl, hO⟩
  try simp only [nth_zero, nth_succ]
  refine join_with (fun l' H' => l' = [ptr p 0, int n] ∧ St H' (Γ.set j (p, rdr v (tkE xs e n)))) ?_ ?_
  · refine join_with (fun l' H' => l' = [ptr p 0, int n, .bool (decide (e = 0 ∧ xs.length < n))] ∧ St H' Γ) ?_ ?_
    · refine opP_i nilCheck_ptr ?_
      refine opP_i offPtr_ptr ?_
      refine load_at hO j hj rfl ?_
      refine opP_i bin_eql ?_
      refine wIf_dec (fun h => ?_) (fun h => ?_)
      · refine opP_i nilCheck_ptr ?_
        refine opP_i offPtr_ptr ?_
        refine load_at hO j hj rfl ?_
        refine opW_i hv.lenSl ?_
        repeat (first | refine opP_i (by first | exact qa | exact qs | exact nilCheck_ptr | exact offPtr_ptr | exact bin_eql | exact bin_neq | exact bin_lss | exact bin_gtr | exact bin_leq | exact bin_geq | exact un_not | exact pick_true | exact pick_false | exact qy | exact qn | exact qi | exact qj) ?_ | refine opW_i (by first | exact lenSl_sl | exact min_w | exact max_w) ?_ | refine wy ?_ | refine wn ?_ | refine wIf_t rfl ?_ | refine wIf_f rfl ?_ | refine cond_yes rfl ?_ | refine cond_no rfl ?_)
        refine ⟨?_, hO⟩
        rw [decide_eq_decide.2 (show (xs.length : Int) < n ↔ (e = 0 ∧ xs.length < n) by omega)]
      · repeat (first | refine opP_i (by first | exact qa | exact qs | exact nilCheck_ptr | exact offPtr_ptr | exact bin_eql | exact bin_neq | exact bin_lss | exact bin_gtr | exact bin_leq | exact bin_geq | exact un_not | exact pick_true | exact pick_false | exact qy | exact qn | exact qi | exact qj) ?_ | refine opW_i (by first | exact lenSl_sl | exact min_w | exact max_w) ?_ | refine wy ?_ | refine wn ?_ | refine wIf_t rfl ?_ | refine wIf_f rfl ?_ | refine cond_yes rfl ?_ | refine cond_no rfl ?_)
        exact ⟨by rw [decide_eq_false (show ¬ (e = 0 ∧ xs.length < n) from fun h' => h h'.1)], hO⟩
    clear hO
    rintro l' H ⟨rfl, hO⟩
    try simp only [nth_zero, nth_succ]
    refine wIf_dec (fun h => ?_) (fun h => ?_)
    · refine opP_i nilCheck_ptr ?_
      refine opP_i offPtr_ptr ?_
      refine store1_at hO j hj rfl (show 1 < 2 by omega) (show _ = [v, int 51] from rfl) ?_
      intro H hO
      refine ⟨trivial, ?_⟩
      unfold tkE
      rw [if_neg (by omega), if_pos h.1]
      exact hO
    · refine ⟨trivial, ?_⟩
      have : tkE xs e n = e := by
        unfold tkE
        by_cases h2 : e = 0
        · rw [if_pos ⟨h2, by omega⟩, h2]
        · rw [if_neg (fun h => h2 h.1), if_neg h2]
      rw [this, set_same hj]
      exact hO
  clear hO
  rintro l' H ⟨rfl, hO⟩
  try simp only [nth_zero, nth_succ]
  have hj2 := set_at (y := (p, rdr v (tkE xs e n))) hj
  refine opP_i nilCheck_ptr ?_
  refine opP_i offPtr_ptr ?_
  refine load_at hO j hj2 rfl ?_
  refine opP_i bin_neq ?_
  by_cases hg : e = 0 ∧ n ≤ xs.length
  · have he : tkE xs e n = 0 := if_pos hg
    have hb : tkB xs e n = xs.take n := if_pos hg
    have hr : tkR xs e n = xs.drop n := if_pos hg
    refine wIf_no (fun h => h he) ?_
    refine newSl_at hO (bs46_0 _) ?_
    intro r H hO
    refine opP_i nilCheck_ptr ?_
    refine opP_i offPtr_ptr ?_
    refine load_at hO j (at_l hj2) rfl ?_
    have hv2 := rd_set (b' := rdr v (tkE xs e n)) (p' := p) hv hj (RdB.shape hv)
    obtain ⟨v1, e1, r1⟩ := slice_hi hv2 hg.2
    obtain ⟨v2, e2, r2⟩ := slice_lo hv2 hg.2
    refine opP_i e1 ?_
    refine append_by (v := sl r 0 0 3) (cs := []) (xs := []) hO (.inr ⟨r, .inr ⟨rfl, rfl⟩, rfl, Nat.le_refl _, rfl⟩) (r1 _ hv2) (by rw [List.length_take]; simp; omega) ?_
    intro H v' cs' hO hv'
    refine opP_i nilCheck_ptr ?_
    refine opP_i offPtr_ptr ?_
    refine load_at hO j (at_l hj2) rfl ?_
    refine opP_i e2 ?_
    refine opP_i nilCheck_ptr ?_
    refine opP_i offPtr_ptr ?_
    obtain ⟨a2, n2, c2, rfl⟩ := RdB.shape (r2 _ hv2)
    refine store1_at hO j (at_l hj2) rfl (show 0 < 2 by omega) (show _ = [.slice a2 n2 c2, int (tkE xs e n)] from rfl) ?_
    intro H hO
    rw [List.set_append_left _ _ (by rw [List.length_set]; exact hjl), List.set_set] at hO
    exact hk _ _ _ cs' hO (by rw [hr]; exact r2) (by rw [hb]; exact hv')
  · have he : tkE xs e n ≠ 0 := by unfold tkE; rw [if_neg hg]; split <;> omega
    have hb : tkB xs e n = [] := if_neg hg
    have hr : tkR xs e n = [] := if_neg hg
    refine wIf_yes he ?_
    refine opP_i nilCheck_ptr ?_
    refine opP_i offPtr_ptr ?_
    refine store1_at hO j hj2 rfl (show 0 < 2 by omega) (show _ = [nilSl, int (tkE xs e n)] from rfl) ?_
    intro H hO
    rw [List.set_set] at hO
    refine hk _ nilSl nilSl [] (by show St H (_ ++ []); rw [List.append_nil]; exact hO) (by rw [hr]; exact .none) (by rw [hb]; exact .nil)
end T
set_option linter.unusedVariables false
set_option maxRecDepth 100000
namespace T
open Go Go.Ab
variable {H : Heap} {Γ : List (Nat × Blk)} {K : Value → Heap → Prop} {v w x : Value} {xs ys : List Int} {j p : Nat} {e : Int}
theorem leV_take : ∀ (xs : List Int) (y : Nat) (h : y < xs.length), leV (xs.take (y + 1)) = leV (xs.take y) + 256 ^ y * xs[y].toNat
  | x :: r, 0, _ => by simp [leV]
  | x :: r, y + 1, h => by
    have hr : y < r.length := by simpa using h
    have := leV_take r y hr
    simp only [List.take_succ_cons, leV, this, List.getElem_cons_succ, Nat.pow_succ, Nat.mul_add]
    have : 256 * (256 ^ y * r[y].toNat) = 256 ^ y * 256 * r[y].toNat := by rw [← Nat.mul_assoc, Nat.mul_comm 256 (256 ^ y)]
    omega
theorem pow_le8 {y : Nat} (h : y ≤ 8) : 256 ^ y ≤ 2 ^ 64 := by
  have : (256 : Nat) ^ y ≤ 256 ^ 8 := Nat.pow_le_pow_right (by omega) h
  exact this
theorem pow_lt7 {y : Nat} (h : y < 8) : 256 ^ y < 2 ^ 64 := by
  have : (256 : Nat) ^ y ≤ 256 ^ 7 := Nat.pow_le_pow_right (by omega) (by omega)
  exact Nat.lt_of_le_of_lt this (by decide)
theorem leV_take_lt {bs : List Int} (hb : ∀ x ∈ bs, 0 ≤ x ∧ x ≤ 255) {y : Nat} (h : y ≤ 8) : leV (bs.take y) < 2 ^ 64 := by
  have h1 := leV_lt (bs.take y) fun z hz => hb z (List.mem_of_mem_take hz)
  have h2 := pow_le8 (y := (bs.take y).length) (by rw [List.length_take]; omega)
  omega
/-- one step of adding up -/
theorem sum_step {bs : List Int} (hb : ∀ x ∈ bs, 0 ≤ x ∧ x ≤ 255) {y : Nat} (h8 : y < 8) (h : y < bs.length) : (leV (bs.take y) + bs[y].toNat * (256 ^ y % 2 ^ 64) % 2 ^ 64) % 2 ^ 64 = leV (bs.take (y + 1)) ∧ 256 ^ y % 2 ^ 64 * 256 % 2 ^ 64 = 256 ^ (y + 1) % 2 ^ 64 := by
  have h1 := leV_take bs y h
  have h2 := leV_take_lt hb (show y + 1 ≤ 8 by omega)
  rw [Nat.mod_eq_of_lt (pow_lt7 h8)]
  constructor
  · rw [Nat.mul_comm, Nat.mod_eq_of_lt (a := 256 ^ y * bs[y].toNat) (by omega), ← h1, Nat.mod_eq_of_lt h2]
  · rw [show (256 : Nat) ^ (y + 1) = 256 ^ y * 256 from rfl]
theorem FixedOf_spec {k : Nat} (hk8 : k ≤ 8) (hO : St H Γ) (hj : Γ[j]? = some (p, rdr v e)) (hv : RdB Γ v xs) (hx : xs.length ≤ 1000000) (hb : ∀ x ∈ xs, 0 ≤ x ∧ x ≤ 255)
    (hk : ∀ H' v2, St H' (rdN Γ j p xs e k v2) → Inh v xs v2 (tkR xs e k) → K (uint .u64 (leV (tkB xs e k))) H') : wCall P n_ref05_FixedOf [ptr p 0, int k] H K := by
  apply ref05_FixedOf_ok; unfold ref05_FixedOf
  refine ref05_size_spec hk8 ?_
  refine ref05_Raw_spec hO hj hv (by omega) hx ?_
  intro H v2 v' cs' hO r2 hv'
  have hbb := RdB.bytes hb k e
  have hbl := tkB_len xs e k
  generalize tkB xs e k = bs at *
  have hk := hk (v2 := v2)
  generalize rdN Γ j p xs e k v2 = Γ2 at *
  refine opW_i hv'.lenSl ?_
  refine ref05_FixedOf_L0_ind (fun k l' H' => ∃ y : Nat, y ≤ bs.length ∧ k = bs.length - y ∧ l' = [.int .u64 0, uint .u64 (leV (bs.take y)), uint .u64 (256 ^ y % 2 ^ 64), v', int bs.length, int y] ∧ St H' (Γ2 ++ outB v' cs')) _ _ ?_ bs.length _ _ ⟨0, by omega, by omega, by simp [leV], hO⟩
  clear hO
  rintro k l' H' ⟨y, hy, rfl, rfl, hO⟩
  unfold ref05_FixedOf_L0
  try simp only [nth_zero, nth_succ]
  repeat (first | refine opP_i (by first | exact qa | exact qs | exact nilCheck_ptr | exact offPtr_ptr | exact bin_eql | exact bin_neq | exact bin_lss | exact bin_gtr | exact bin_leq | exact bin_geq | exact un_not | exact pick_true | exact pick_false | exact qy | exact qn | exact qi | exact qj) ?_ | refine opW_i (by first | exact lenSl_sl | exact min_w | exact max_w) ?_ | refine wy ?_ | refine wn ?_ | refine wIf_t rfl ?_ | refine wIf_f rfl ?_ | refine cond_yes rfl ?_ | refine cond_no rfl ?_)
  refine wIf_dec (fun h => ?_) (fun h => ?_)
  · have hyl : y < bs.length := by omega
    have hx := hbb _ (List.getElem_mem hyl)
    obtain ⟨s1, s2⟩ := sum_step hbb (show y < 8 by omega) hyl
    obtain ⟨p2, o, c, j2, b, rfl, h1, h2⟩ := (hv'.rd.app' (Γ := Γ2)).at hyl
    repeat (first | refine opP_i (by first | exact qa | exact qs | exact nilCheck_ptr | exact offPtr_ptr | exact bin_eql | exact bin_neq | exact bin_lss | exact bin_gtr | exact bin_leq | exact bin_geq | exact un_not | exact pick_true | exact pick_false | exact qy | exact qn | exact qi | exact qj) ?_ | refine opW_i (by first | exact lenSl_sl | exact min_w | exact max_w) ?_ | refine wy ?_ | refine wn ?_ | refine wIf_t rfl ?_ | refine wIf_f rfl ?_ | refine cond_yes rfl ?_ | refine cond_no rfl ?_)
    refine load_at hO j2 h1 (v := .int .u8 bs[y]) (by simpa using h2) ?_
    rw [uint_of hx.1]
    refine opW_i (cvU rfl) ?_
    rw [show bs[y].toNat % szU .u64 = bs[y].toNat from Nat.mod_eq_of_lt (show bs[y].toNat < 2 ^ 64 by omega)]
    refine opP_i (bin_mulU rfl) ?_
    refine opP_i (bin_addU rfl) ?_
    refine opP_i (bin_mulU (b := 256) rfl) ?_
    rw [show szU .u64 = 2 ^ 64 from rfl, s1, s2]
    repeat (first | refine opP_i (by first | exact qa | exact qs | exact nilCheck_ptr | exact offPtr_ptr | exact bin_eql | exact bin_neq | exact bin_lss | exact bin_gtr | exact bin_leq | exact bin_geq | exact un_not | exact pick_true | exact pick_false | exact qy | exact qn | exact qi | exact qj) ?_ | refine opW_i (by first | exact lenSl_sl | exact min_w | exact max_w) ?_ | refine wy ?_ | refine wn ?_ | refine wIf_t rfl ?_ | refine wIf_f rfl ?_ | refine cond_yes rfl ?_ | refine cond_no rfl ?_)
    exact ⟨_, by omega, y + 1, by omega, rfl, rfl, hO⟩
  · have e : y = bs.length := by omega
    subst e
    repeat (first | refine opP_i (by first | exact qa | exact qs | exact nilCheck_ptr | exact offPtr_ptr | exact bin_eql | exact bin_neq | exact bin_lss | exact bin_gtr | exact bin_leq | exact bin_geq | exact un_not | exact pick_true | exact pick_false | exact qy | exact qn | exact qi | exact qj) ?_ | refine opW_i (by first | exact lenSl_sl | exact min_w | exact max_w) ?_ | refine wy ?_ | refine wn ?_ | refine wIf_t rfl ?_ | refine wIf_f rfl ?_ | refine cond_yes rfl ?_ | refine cond_no rfl ?_)
    rw [List.take_of_length_le (Nat.le_refl _)]
    exact hk _ hO.left r2
/-! a slot of bytes -/
def slOf (b : List Int) : Sl := ⟨leV (b.take 1), leV ((b.drop 1).take 1), leV ((b.drop 2).take 8), leV ((b.drop 10).take 4), fun i => ((b.drop 14).take 32).getD i 0⟩
def rSlot (xs : List Int) (e : Int) : Sl × Int := if tkE xs e 46 ≠ 0 then (slz 0, tkE xs e 46) else if SRight (slOf (tkB xs e 46)) then (slOf (tkB xs e 46), 0) else (slz 0, 101)
theorem b34 (a b c d : Int) : (buildC P 34).f [(0, int a), (1, int b), (2, .int .u64 c), (3, int d)] = some (agg (slC ⟨a, b, c, d, fun _ => 0⟩)) := by kernel_rfl
theorem tk_ok {n : Nat} (h : n ≤ xs.length) : tkB xs 0 n = xs.take n ∧ tkR xs 0 n = xs.drop n ∧ tkE xs 0 n = 0 := ⟨if_pos ⟨rfl, h⟩, if_pos ⟨rfl, h⟩, if_pos ⟨rfl, h⟩⟩
/-- copy: bytes of a slice into a block of the call's own -/
theorem copy_by {o n c i q : Nat} {cs : List Value} {K : Value → Heap → Prop} (hO : St H Γ) (hi : Γ[i]? = some (q, ⟨cs, true⟩)) (hv : RdB Γ v ys) (hn : n = ys.length) (hp : 0 < n) (hl : o + n ≤ cs.length)
    (hk : ∀ H', St H' (Γ.set i (q, ⟨cs.take o ++ (by8 ys ++ cs.drop (o + n)), true⟩)) → K (int n) H') : opW (copyTo 1 (sl q o n c) v H) K := by
  obtain ⟨H', hw, hs⟩ := write_at hO (o := o) (vs := by8 ys) hi (by simp; omega) (by simp [oneCell])
  unfold copyTo
  simp only [hv.lenA]
  have hb : Nat.beq (Nat.min ys.length n) 0 = false := by
    cases hb : Nat.beq (Nat.min ys.length n) 0 with
    | false => rfl
    | true => have := Nat.eq_of_beq_eq_true hb; rw [hn, show Nat.min ys.length ys.length = ys.length from Nat.min_self _] at this; omega
  rw [hb]
  simp only [Bool.false_eq_true, if_false]
  have hm : Nat.min ys.length n = ys.length := by rw [hn]; exact Nat.min_self _
  rw [hm, hv.elems hO]
  simp only
  rw [hw]
  refine opW_i (show some (Value.int .i64 ((ys.length : Nat) : Int), H') = _ from rfl) ?_
  rw [List.length_map, ← hn] at hs
  rw [← hn]
  exact hk _ hs
set_option maxHeartbeats 4000000 in
theorem slot_Read_spec (hO : St H Γ) (hj : Γ[j]? = some (p, rdr v e)) (hv : RdB Γ v xs) (hx : xs.length ≤ 1000000) (hb : ∀ x ∈ xs, 0 ≤ x ∧ x ≤ 255)
    (hk : ∀ H' v2, St H' (rdN Γ j p xs e 46 v2) → Inh v xs v2 (tkR xs e 46) → K (.tuple [agg (slC (rSlot xs e).1), int (rSlot xs e).2].toArray) H') : wCall P n_slot_Read [ptr p 0] H K := by
  apply slot_Read_ok; unfold slot_Read
  have hjl := (List.getElem?_eq_some_iff.1 hj).1
  rw [zc26]
  refine new_at hO ?_
  intro q H hO
  refine rRaw_spec (n := 46) hO (at_l hj) hv.app (by omega) hx ?_
  intro H v2 v' cs' hO r2' hv'
  unfold rdN at hO
  rw [List.set_append_left _ _ hjl] at hO
  have hk := hk (v2 := v2)
  have hj2 := set_at (y := (p, rdr v2 (tkE xs e 46))) hj
  have hbb := RdB.bytes hb 46 e
  unfold rdN rSlot at hk
  generalize hΓ2 : Γ.set j (p, rdr v2 (tkE xs e 46)) = Γ2 at *
  have hO : St H ((Γ2 ++ [(q, ⟨slC (slz 0), true⟩)]) ++ outB v' cs') := hO
  refine rErr_spec hO (at_l (at_l hj2)) ?_
  refine opP_i bin_neq ?_
  refine wIf_dec (fun h => ?_) (fun h => ?_)
  · rw [if_pos h] at hk
    refine opP_i b26 ?_
    refine storeAll_at hO (Γ2.length + 0) (at_l (at_r rfl)) rfl rfl rfl ?_
    intro H hO
    replace hO : St H (Γ2.set j (p, rdr v2 (tkE xs e 46)) ++ [(q, ⟨slC (slz 0), true⟩)]) := by
      rw [List.set_append_left _ _ (by simp), show Γ2.length + 0 = Γ2.length + 0 from rfl, Go.Ab.set_r] at hO
      rw [set_same hj2]
      exact hO.left
    rw [set_same hj2] at hO
    refine loadAll_at hO (Γ2.length + 0) (at_r rfl) rfl (by omega) ?_
    exact hk _ hO.left r2'
  · rw [if_neg h] at hk
    have hg : e = 0 ∧ 46 ≤ xs.length := by
      by_cases hg : e = 0 ∧ 46 ≤ xs.length
      · exact hg
      · exfalso; apply h; unfold tkE; rw [if_neg hg]; split <;> omega
    have hlen : (tkB xs e 46).length = 46 := by unfold tkB; rw [if_pos hg, List.length_take]; omega
    have he0 : tkE xs e 46 = 0 := by unfold tkE; rw [if_pos hg]
    generalize tkB xs e 46 = bs at *
    obtain ⟨X, hX⟩ : ∃ X, X = (Γ2 ++ [(q, ⟨slC (slz 0), true⟩)]) ++ outB v' cs' := ⟨_, rfl⟩
    rw [← hX] at hO
    have hv0 : RdB X v' bs := by rw [hX]; exact hv'.rd.app'
    refine New_spec hO hv0 ?_
    clear hO
    intro H pr hO
    -- one number more
    have step : ∀ {H : Heap} {vv : Value} {zs : List Int} {k : Nat} {K' : Value → Heap → Prop}, k ≤ 8 → k ≤ zs.length → (∀ x ∈ zs, 0 ≤ x ∧ x ≤ 255) → St H (X ++ [(pr, rdr vv 0)]) → RdB X vv zs → (∀ H' v3, St H' (X ++ [(pr, rdr v3 0)]) → RdB X v3 (zs.drop k) → K' (uint .u64 (leV (zs.take k))) H') → wCall P n_code_Reader_Fixed [ptr pr 0, int k] H K' := by
      intro H vv zs k K' h8 hkz hz hO hr hkk
      obtain ⟨t1, t2, t3⟩ := tk_ok hkz
      refine rFixed_spec h8 hO (at_r (k := 0) rfl) hr.app hz ?_
      rw [t1, t2, t3]
      intro H' v3 hO' hr'
      rw [Go.Ab.set_r] at hO'
      exact hkk _ v3 hO' (hr' _ hr)
    have hv1 : ∀ k, ∀ x ∈ bs.drop k, 0 ≤ x ∧ x ≤ 255 := fun k x hx => hbb x (List.mem_of_mem_drop hx)
    have hlt : ∀ k, leV ((bs.drop k).take 1) < 256 := fun k => by
      have := leV_lt ((bs.drop k).take 1) fun x hx => hv1 k x (List.mem_of_mem_take hx)
      have h2 : (256 : Nat) ^ ((bs.drop k).take 1).length ≤ 256 ^ 1 := Nat.pow_le_pow_right (by omega) (by rw [List.length_take]; omega)
      omega
    have hlt4 : leV ((bs.drop 10).take 4) < 4294967296 := by
      have := leV_lt ((bs.drop 10).take 4) fun x hx => hv1 10 x (List.mem_of_mem_take hx)
      have h2 : (256 : Nat) ^ ((bs.drop 10).take 4).length ≤ 256 ^ 4 := Nat.pow_le_pow_right (by omega) (by rw [List.length_take]; omega)
      omega
    refine step (k := 1) (by omega) (by omega) hbb hO hv0 ?_
    clear hO
    intro H w1 hO a1
    have l0 := hlt 0
    have l1 := hlt 1
    rw [List.drop_zero] at l0
    refine opW_i (cvUi (by omega)) ?_
    refine step (k := 1) (by omega) (by rw [List.length_drop]; omega) (hv1 1) hO a1 ?_
    clear hO
    intro H w2 hO a2
    rw [List.drop_drop] at a2
    refine opW_i (cvUi (by omega)) ?_
    refine step (k := 8) (by omega) (by rw [List.length_drop]; omega) (hv1 2) hO a2 ?_
    clear hO
    intro H w3 hO a3
    rw [List.drop_drop] at a3
    refine step (k := 4) (by omega) (by rw [List.length_drop]; omega) (hv1 10) hO a3 ?_
    clear hO
    intro H w4 hO a4
    rw [List.drop_drop] at a4
    refine opW_i (cvUi (by omega)) ?_
    refine opP_i (b34 _ _ _ _) ?_
    refine new_at hO ?_
    intro p7 H hO
    rw [List.append_assoc] at hO
    refine storeAll_at hO (X.length + 1) (at_r rfl) rfl rfl rfl ?_
    intro H hO
    obtain ⟨s0, hs0⟩ : ∃ s0 : Sl, s0 = ⟨leV (bs.take 1), leV ((bs.drop 1).take 1), leV ((bs.drop 2).take 8), leV ((bs.drop 10).take 4), fun _ => 0⟩ := ⟨_, rfl⟩
    rw [← hs0] at hO
    replace hO : St H (X ++ [(pr, rdr w4 0), (p7, ⟨slC s0, true⟩)]) := hO.set_r
    refine opP_i offPtr_ptr ?_
    refine opP_i (slice_arr hO (X.length + 1) (at_r rfl) (by omega) (show 0 + 4 + 32 ≤ (slC s0).length from Nat.le_refl _)) ?_
    obtain ⟨t1, t2, t3⟩ := tk_ok (xs := bs.drop 14) (n := 32) (by rw [List.length_drop]; omega)
    refine rRaw_spec (n := 32) hO (at_r (k := 0) rfl) a4.app (by omega) (by rw [List.length_drop]; omega) ?_
    rw [t1]
    intro H2 w5 v5 c5 hO2 a5 h5
    unfold rdN at hO2
    rw [t3, Go.Ab.set_r] at hO2
    replace hO2 : St H2 ((X ++ [(pr, rdr w5 0), (p7, ⟨slC s0, true⟩)]) ++ outB v5 c5) := hO2
    refine ⟨same_at hO (X.length + 1) (at_r rfl) hO2 (X.length + 1) (at_l (at_r rfl)) rfl, ?_⟩
    clear hO
    have h32 : ((bs.drop 14).take 32).length = 32 := by rw [List.length_take, List.length_drop]; omega
    refine copy_by hO2 (at_l (at_r (k := 1) rfl)) (h5.rd.app') h32.symm (by omega) (show 0 + 4 + 32 ≤ (slC s0).length from Nat.le_refl _) ?_
    intro H hO
    rw [List.set_append_left _ _ (by simp), Go.Ab.set_r] at hO
    have hcell : (slC s0).take (0 + 4) ++ (by8 ((bs.drop 14).take 32) ++ (slC s0).drop (0 + 4 + 32)) = slC (slOf bs) := by
      rw [by8, dgC_eq _ h32, hs0]; rfl
    rw [hcell] at hO
    replace hO : St H (X ++ [(pr, rdr w5 0), (p7, ⟨slC (slOf bs), true⟩)]) := hO.left
    refine loadAll_at hO (X.length + 1) (at_r rfl) rfl (by omega) ?_
    refine slot_Right_spec hO ?_
    intro H hO
    rw [hX, List.append_assoc, List.append_assoc] at hO
    by_cases hr : SRight (slOf bs)
    · rw [if_pos hr] at hk
      rw [decide_eq_true hr]
      repeat (first | refine opP_i (by first | exact qa | exact qs | exact nilCheck_ptr | exact offPtr_ptr | exact bin_eql | exact bin_neq | exact bin_lss | exact bin_gtr | exact bin_leq | exact bin_geq | exact un_not | exact pick_true | exact pick_false | exact qy | exact qn | exact qi | exact qj) ?_ | refine opW_i (by first | exact lenSl_sl | exact min_w | exact max_w) ?_ | refine wy ?_ | refine wn ?_ | refine wIf_t rfl ?_ | refine wIf_f rfl ?_ | refine cond_yes rfl ?_ | refine cond_no rfl ?_)
      have hO' : St H (X ++ [(pr, rdr w5 0), (p7, ⟨slC (slOf bs), true⟩)]) := by rw [hX, List.append_assoc, List.append_assoc]; exact hO
      refine loadAll_at hO' (X.length + 1) (at_r rfl) rfl (by omega) ?_
      refine storeAll_at hO (Γ2.length + 0) (at_r rfl) rfl rfl rfl ?_
      intro H hO
      replace hO := hO.set_r
      refine loadAll_at hO (Γ2.length + 0) (at_r rfl) rfl (by omega) ?_
      exact hk _ hO.left r2'
    · rw [if_neg hr] at hk
      rw [decide_eq_false hr]
      repeat (first | refine opP_i (by first | exact qa | exact qs | exact nilCheck_ptr | exact offPtr_ptr | exact bin_eql | exact bin_neq | exact bin_lss | exact bin_gtr | exact bin_leq | exact bin_geq | exact un_not | exact pick_true | exact pick_false | exact qy | exact qn | exact qi | exact qj) ?_ | refine opW_i (by first | exact lenSl_sl | exact min_w | exact max_w) ?_ | refine wy ?_ | refine wn ?_ | refine wIf_t rfl ?_ | refine wIf_f rfl ?_ | refine cond_yes rfl ?_ | refine cond_no rfl ?_)
      refine opP_i b26 ?_
      refine storeAll_at hO (Γ2.length + 0) (at_r rfl) rfl rfl rfl ?_
      intro H hO
      replace hO := hO.set_r
      refine loadAll_at hO (Γ2.length + 0) (at_r rfl) rfl (by omega) ?_
      exact hk _ hO.left r2'
end T
set_option linter.unusedVariables false
set_option maxRecDepth 100000
namespace T
open Go Go.Ab
variable {H : Heap} {Γ : List (Nat × Blk)} {K : Value → Heap → Prop} {v w x : Value} {xs ys : List Int} {j p : Nat} {e : Int}
theorem b34ab (a b : Int) : (buildC P 34).f [(0, int a), (1, int b)] = some (agg (slC ⟨a, b, 0, 0, fun _ => 0⟩)) := by kernel_rfl
theorem dgC_range (g : Nat → Int) : dgC g = (List.range 32).map fun k => Value.int .u8 (g k) := rfl
theorem set_dg {s : Sl} {i : Nat} {y : Int} (h : i < 32) : (slC s).set (i + 4) (.int .u8 y) = slC { s with dg := fun k => if k = i then y else s.dg k } := by
  show int s.st :: int s.tr :: .int .u64 s.ver :: int s.sz :: (dgC s.dg).set i (.int .u8 y) = int s.st :: int s.tr :: .int .u64 s.ver :: int s.sz :: dgC (fun k => if k = i then y else s.dg k)
  congr 4
  rw [dgC_range, dgC_range]
  apply List.ext_getElem?
  intro k
  rw [List.getElem?_set]
  by_cases hk : k < 32
  · by_cases hi : i = k
    · subst hi; simp [h]
    · rw [if_neg hi]; simp [hk, Ne.symm hi]
  · rw [if_neg (by omega), List.getElem?_eq_none (by simp; omega), List.getElem?_eq_none (by simp; omega)]
theorem apart3 {p q o o' : Nat} {l : List Value} (h : p ≠ q) : cApart (idsOf [ptr p o]) (idsOf [ptr q o', agg l]) := by
  show apartIds [p] [q] = true
  have e : Nat.beq p q = false := by
    cases hb : Nat.beq p q with
    | false => rfl
    | true => exact absurd (Nat.eq_of_beq_eq_true hb) h
  simp [apartIds, allN_eq, memN, e]
theorem leV4 (l : List Int) (h : 4 ≤ l.length) (hb : ∀ x ∈ l, 0 ≤ x ∧ x ≤ 255) : ((leV (l.take 4) : Nat) : Int) = l[0] + (256 : Int) * l[1] + (65536 : Int) * l[2] + (16777216 : Int) * l[3] := by
  match l, h, hb with
  | a :: b :: c :: d :: r, _, hb =>
    have h1 := hb a (by simp)
    have h2 := hb b (by simp)
    have h3 := hb c (by simp)
    have h4 := hb d (by simp)
    simp only [List.take_succ_cons, List.take_zero, leV, List.getElem_cons_zero, List.getElem_cons_succ]
    omega
theorem leV1 (l : List Int) (h : 1 ≤ l.length) (hb : ∀ x ∈ l, 0 ≤ x ∧ x ≤ 255) : ((leV (l.take 1) : Nat) : Int) = l[0] := by
  match l, h, hb with
  | a :: r, _, hb =>
    have h1 := hb a (by simp)
    simp only [List.take_succ_cons, List.take_zero, leV, List.getElem_cons_zero]
    omega
/-- a byte of a slice -/
theorem byte_at {K : Value → Heap → Prop} (hO : St H Γ) (h : RdB Γ v xs) {i : Int} {n : Nat} (hn : i = n) (hi : n < xs.length) (hk : K (.int .u8 xs[n]) H) : opP (idxSl 1 v (int i)) fun t => opW (loadOne t H) K := by
  subst hn
  obtain ⟨p2, o, c, j2, b, rfl, h1, h2⟩ := h.at hi
  refine opP_i (idxSl_ok (by omega) (by omega)) ?_
  exact load_at hO j2 h1 (v := .int .u8 xs[n]) (by simpa using h2) hk
set_option maxHeartbeats 4000000 in
theorem ref10_Read_spec (hO : St H Γ) (hj : Γ[j]? = some (p, rdr v e)) (hv : RdB Γ v xs) (hx : xs.length ≤ 1000000) (hb : ∀ x ∈ xs, 0 ≤ x ∧ x ≤ 255)
    (hk : ∀ H' v2, St H' (rdN Γ j p xs e 46 v2) → Inh v xs v2 (tkR xs e 46) → K (.tuple [agg (slC (rSlot xs e).1), int (rSlot xs e).2].toArray) H') : wCall P n_ref10_Read [ptr p 0] H K := by
  apply ref10_Read_ok; unfold ref10_Read
  have hjl := (List.getElem?_eq_some_iff.1 hj).1
  rw [zc26]
  refine new_at hO ?_
  intro q H hO
  refine ref05_Raw_spec (n := 46) hO (at_l hj) hv.app (by omega) hx ?_
  intro H v2 v' cs' hO r2' hv'
  unfold rdN at hO
  rw [List.set_append_left _ _ hjl] at hO
  have hk := hk (v2 := v2)
  have hj2 := set_at (y := (p, rdr v2 (tkE xs e 46))) hj
  have hbb := RdB.bytes hb 46 e
  unfold rdN rSlot at hk
  generalize hΓ2 : Γ.set j (p, rdr v2 (tkE xs e 46)) = Γ2 at *
  have hO : St H ((Γ2 ++ [(q, ⟨slC (slz 0), true⟩)]) ++ outB v' cs') := hO
  refine opP_i nilCheck_ptr ?_
  refine opP_i offPtr_ptr ?_
  refine load_at hO j (at_l (at_l hj2)) rfl ?_
  refine opP_i bin_neq ?_
  refine wIf_dec (fun h => ?_) (fun h => ?_)
  · rw [if_pos h] at hk
    refine opP_i b26 ?_
    refine opP_i nilCheck_ptr ?_
    refine opP_i offPtr_ptr ?_
    refine load_at hO j (at_l (at_l hj2)) rfl ?_
    have hjl2 := (List.getElem?_eq_some_iff.1 hj2).1
    have hne := St.ne hO (i := j) (j := Γ2.length + 0) (at_l (at_l hj2)) (at_l (at_r rfl)) (by omega)
    refine storeAll_at hO (Γ2.length + 0) (at_l (at_r rfl)) rfl rfl rfl ?_
    intro H hO
    refine ⟨apart3 hne, ?_⟩
    rw [List.set_append_left _ _ (by simp), Go.Ab.set_r] at hO
    replace hO : St H (Γ2 ++ [(q, ⟨slC (slz 0), true⟩)]) := hO.left
    refine loadAll_at hO (Γ2.length + 0) (at_r rfl) rfl (by omega) ?_
    exact hk _ hO.left r2'
  · rw [if_neg h] at hk
    have hg : e = 0 ∧ 46 ≤ xs.length := by
      by_cases hg : e = 0 ∧ 46 ≤ xs.length
      · exact hg
      · exfalso; apply h; unfold tkE; rw [if_neg hg]; split <;> omega
    have hlen : (tkB xs e 46).length = 46 := by unfold tkB; rw [if_pos hg, List.length_take]; omega
    generalize tkB xs e 46 = bs at *
    have bd : ∀ i (h : i < bs.length), 0 ≤ bs[i] ∧ bs[i] ≤ 255 := fun i h => hbb _ (List.getElem_mem h)
    obtain ⟨X, hX⟩ : ∃ X, X = (Γ2 ++ [(q, ⟨slC (slz 0), true⟩)]) ++ outB v' cs' := ⟨_, rfl⟩
    rw [← hX] at hO
    have hv0 : RdB X v' bs := by rw [hX]; exact hv'.rd.app'
    have b0 := bd 0 (by omega)
    have b1 := bd 1 (by omega)
    have b10 := bd 10 (by omega)
    have b11 := bd 11 (by omega)
    have b12 := bd 12 (by omega)
    have b13 := bd 13 (by omega)
    refine byte_at (n := 0) hO hv0 rfl (by omega) ?_
    refine opW_i (cvInt_i (by omega) (by omega)) ?_
    refine byte_at (n := 1) hO hv0 rfl (by omega) ?_
    refine opW_i (cvInt_i (by omega) (by omega)) ?_
    refine opP_i (b34ab _ _) ?_
    refine new_at hO ?_
    intro p5 H hO
    refine storeAll_at hO (X.length + 0) (at_r rfl) rfl rfl rfl ?_
    intro H hO
    replace hO : St H (X ++ [(p5, ⟨slC ⟨bs[0], bs[1], 0, 0, fun _ => 0⟩, true⟩)]) := hO.set_r
    refine ref10_Read_L0_ind (fun k l' H' => ∃ y : Nat, y ≤ 8 ∧ k = 8 - y ∧ l' = [ptr q 0, int 0, v', ptr p5 0, uint .u64 (256 ^ y % 2 ^ 64), int y] ∧ St H' (X ++ [(p5, ⟨slC ⟨bs[0], bs[1], leV ((bs.drop 2).take y), 0, fun _ => 0⟩, true⟩)])) _ _ ?_ 8 _ _ ⟨0, by omega, by omega, rfl, hO⟩
    clear hO
    rintro k l' H' ⟨y, hy, rfl, rfl, hO⟩
    unfold ref10_Read_L0
    try simp only [nth_zero, nth_succ]
    repeat (first | refine opP_i (by first | exact qa | exact qs | exact nilCheck_ptr | exact offPtr_ptr | exact bin_eql | exact bin_neq | exact bin_lss | exact bin_gtr | exact bin_leq | exact bin_geq | exact un_not | exact pick_true | exact pick_false | exact qy | exact qn | exact qi | exact qj) ?_ | refine opW_i (by first | exact lenSl_sl | exact min_w | exact max_w) ?_ | refine wy ?_ | refine wn ?_ | refine wIf_t rfl ?_ | refine wIf_f rfl ?_ | refine cond_yes rfl ?_ | refine cond_no rfl ?_)
    refine wIf_dec (fun h8 => ?_) (fun h8 => ?_)
    · have hyl : y < (bs.drop 2).length := by rw [List.length_drop]; omega
      have hbd : ∀ x ∈ bs.drop 2, 0 ≤ x ∧ x ≤ 255 := fun x hx => hbb x (List.mem_of_mem_drop hx)
      obtain ⟨s1, s2⟩ := sum_step hbd (show y < 8 by omega) hyl
      have hby := hbd _ (List.getElem_mem hyl)
      have hget : (bs.drop 2)[y] = bs[2 + y] := by rw [List.getElem_drop]
      rw [hget] at s1 hby
      repeat (first | refine opP_i (by first | exact qa | exact qs | exact nilCheck_ptr | exact offPtr_ptr | exact bin_eql | exact bin_neq | exact bin_lss | exact bin_gtr | exact bin_leq | exact bin_geq | exact un_not | exact pick_true | exact pick_false | exact qy | exact qn | exact qi | exact qj) ?_ | refine opW_i (by first | exact lenSl_sl | exact min_w | exact max_w) ?_ | refine wy ?_ | refine wn ?_ | refine wIf_t rfl ?_ | refine wIf_f rfl ?_ | refine cond_yes rfl ?_ | refine cond_no rfl ?_)
      refine load_at hO (X.length + 0) (at_r rfl) rfl ?_
      repeat (first | refine opP_i (by first | exact qa | exact qs | exact nilCheck_ptr | exact offPtr_ptr | exact bin_eql | exact bin_neq | exact bin_lss | exact bin_gtr | exact bin_leq | exact bin_geq | exact un_not | exact pick_true | exact pick_false | exact qy | exact qn | exact qi | exact qj) ?_ | refine opW_i (by first | exact lenSl_sl | exact min_w | exact max_w) ?_ | refine wy ?_ | refine wn ?_ | refine wIf_t rfl ?_ | refine wIf_f rfl ?_ | refine cond_yes rfl ?_ | refine cond_no rfl ?_)
      refine byte_at (n := 2 + y) hO hv0.app (by omega) (by omega) ?_
      rw [uint_of hby.1]
      refine opW_i (cvU rfl) ?_
      rw [show bs[2 + y].toNat % szU .u64 = bs[2 + y].toNat from Nat.mod_eq_of_lt (show bs[2 + y].toNat < 2 ^ 64 by omega)]
      refine opP_i (bin_mulU rfl) ?_
      refine opP_i (bin_addU rfl) ?_
      rw [show szU .u64 = 2 ^ 64 from rfl, Nat.mul_comm (256 ^ y % 2 ^ 64) bs[2 + y].toNat, s1]
      refine opP_i offPtr_ptr ?_
      refine store1_at hO (X.length + 0) (at_r rfl) rfl (show 0 + 2 < 36 by omega) (show _ = slC ⟨bs[0], bs[1], leV ((bs.drop 2).take (y + 1)), 0, fun _ => 0⟩ from rfl) ?_
      intro H hO
      refine opP_i (bin_mulU (b := 256) rfl) ?_
      rw [show szU .u64 = 2 ^ 64 from rfl, s2]
      repeat (first | refine opP_i (by first | exact qa | exact qs | exact nilCheck_ptr | exact offPtr_ptr | exact bin_eql | exact bin_neq | exact bin_lss | exact bin_gtr | exact bin_leq | exact bin_geq | exact un_not | exact pick_true | exact pick_false | exact qy | exact qn | exact qi | exact qj) ?_ | refine opW_i (by first | exact lenSl_sl | exact min_w | exact max_w) ?_ | refine wy ?_ | refine wn ?_ | refine wIf_t rfl ?_ | refine wIf_f rfl ?_ | refine cond_yes rfl ?_ | refine cond_no rfl ?_)
      exact ⟨_, by omega, y + 1, by omega, rfl, rfl, hO.set_r⟩
    have hy8 : y = 8 := by omega
    subst hy8
    repeat (first | refine opP_i (by first | exact qa | exact qs | exact nilCheck_ptr | exact offPtr_ptr | exact bin_eql | exact bin_neq | exact bin_lss | exact bin_gtr | exact bin_leq | exact bin_geq | exact un_not | exact pick_true | exact pick_false | exact qy | exact qn | exact qi | exact qj) ?_ | refine opW_i (by first | exact lenSl_sl | exact min_w | exact max_w) ?_ | refine wy ?_ | refine wn ?_ | refine wIf_t rfl ?_ | refine wIf_f rfl ?_ | refine cond_yes rfl ?_ | refine cond_no rfl ?_)
    have hv1 := hv0.app (Δ := [(p5, (⟨slC ⟨bs[0], bs[1], leV ((bs.drop 2).take 8), 0, fun _ => 0⟩, true⟩ : Blk))])
    refine byte_at (n := 10) hO hv1 rfl (by omega) ?_
    refine opW_i (cvInt_i (by omega) (by omega)) ?_
    refine byte_at (n := 11) hO hv1 rfl (by omega) ?_
    refine opW_i (cvInt_i (by omega) (by omega)) ?_
    refine opP_i (bin_muli (by omega) (by omega)) ?_
    refine opP_i (bin_addi (by omega) (by omega)) ?_
    refine byte_at (n := 12) hO hv1 rfl (by omega) ?_
    refine opW_i (cvInt_i (by omega) (by omega)) ?_
    refine opP_i (bin_muli (by omega) (by omega)) ?_
    refine opP_i (bin_addi (by omega) (by omega)) ?_
    refine byte_at (n := 13) hO hv1 rfl (by omega) ?_
    refine opW_i (cvInt_i (by omega) (by omega)) ?_
    refine opP_i (bin_muli (by omega) (by omega)) ?_
    refine opP_i (bin_addi (by omega) (by omega)) ?_
    have h4 : ((leV ((bs.drop 10).take 4) : Nat) : Int) = bs[10] + (256 : Int) * bs[11] + (65536 : Int) * bs[12] + (16777216 : Int) * bs[13] := by
      have := leV4 (bs.drop 10) (by rw [List.length_drop]; omega) fun x hx => hbb x (List.mem_of_mem_drop hx)
      simp only [List.getElem_drop] at this
      exact this
    rw [← h4]
    have h0 := leV1 bs (by omega) hbb
    have h1 := leV1 (bs.drop 1) (by rw [List.length_drop]; omega) fun x hx => hbb x (List.mem_of_mem_drop hx)
    simp only [List.getElem_drop, Nat.add_zero] at h1
    rw [← h0, ← h1] at hO
    refine opP_i offPtr_ptr ?_
    refine store1_at hO (X.length + 0) (at_r rfl) rfl (show 0 + 3 < 36 by omega) (show _ = slC ⟨leV (bs.take 1), leV ((bs.drop 1).take 1), leV ((bs.drop 2).take 8), leV ((bs.drop 10).take 4), fun k => if k < 0 then ((bs.drop 14).take 32).getD k 0 else 0⟩ from rfl) ?_
    intro H hO
    replace hO := hO.set_r
    refine ref10_Read_L1_ind (fun k l' H' => ∃ y : Nat, y ≤ 32 ∧ k = 32 - y ∧ l' = [ptr q 0, int 0, v', ptr p5 0, int y] ∧ St H' (X ++ [(p5, ⟨slC ⟨leV (bs.take 1), leV ((bs.drop 1).take 1), leV ((bs.drop 2).take 8), leV ((bs.drop 10).take 4), fun k => if k < y then ((bs.drop 14).take 32).getD k 0 else 0⟩, true⟩)])) _ _ ?_ 32 _ _ ⟨0, by omega, by omega, rfl, hO⟩
    clear hO hv1
    rintro k l' H' ⟨y, hy, rfl, rfl, hO⟩
    unfold ref10_Read_L1
    try simp only [nth_zero, nth_succ]
    repeat (first | refine opP_i (by first | exact qa | exact qs | exact nilCheck_ptr | exact offPtr_ptr | exact bin_eql | exact bin_neq | exact bin_lss | exact bin_gtr | exact bin_leq | exact bin_geq | exact un_not | exact pick_true | exact pick_false | exact qy | exact qn | exact qi | exact qj) ?_ | refine opW_i (by first | exact lenSl_sl | exact min_w | exact max_w) ?_ | refine wy ?_ | refine wn ?_ | refine wIf_t rfl ?_ | refine wIf_f rfl ?_ | refine cond_yes rfl ?_ | refine cond_no rfl ?_)
    refine wIf_dec (fun h8 => ?_) (fun h8 => ?_)
    · repeat (first | refine opP_i (by first | exact qa | exact qs | exact nilCheck_ptr | exact offPtr_ptr | exact bin_eql | exact bin_neq | exact bin_lss | exact bin_gtr | exact bin_leq | exact bin_geq | exact un_not | exact pick_true | exact pick_false | exact qy | exact qn | exact qi | exact qj) ?_ | refine opW_i (by first | exact lenSl_sl | exact min_w | exact max_w) ?_ | refine wy ?_ | refine wn ?_ | refine wIf_t rfl ?_ | refine wIf_f rfl ?_ | refine cond_yes rfl ?_ | refine cond_no rfl ?_)
      refine byte_at (n := 14 + y) hO hv0.app (by omega) (by omega) ?_
      repeat (first | refine opP_i (by first | exact qa | exact qs | exact nilCheck_ptr | exact offPtr_ptr | exact bin_eql | exact bin_neq | exact bin_lss | exact bin_gtr | exact bin_leq | exact bin_geq | exact un_not | exact pick_true | exact pick_false | exact qy | exact qn | exact qi | exact qj) ?_ | refine opW_i (by first | exact lenSl_sl | exact min_w | exact max_w) ?_ | refine wy ?_ | refine wn ?_ | refine wIf_t rfl ?_ | refine wIf_f rfl ?_ | refine cond_yes rfl ?_ | refine cond_no rfl ?_)
      refine store1_at hO (X.length + 0) (at_r rfl) rfl (show 0 + 4 + ((y : Nat) : Int).toNat * 1 < 36 by omega) (cs' := slC ⟨leV (bs.take 1), leV ((bs.drop 1).take 1), leV ((bs.drop 2).take 8), leV ((bs.drop 10).take 4), fun k => if k < y + 1 then ((bs.drop 14).take 32).getD k 0 else 0⟩) ?_ ?_
      · rw [show 0 + 4 + ((y : Nat) : Int).toNat * 1 = y + 4 by omega, set_dg (by omega)]
        congr 2
        funext k
        by_cases hk1 : k = y
        · subst hk1
          rw [if_pos rfl, if_pos (by omega)]
          rw [List.getD_eq_getElem?_getD, List.getElem?_take_of_lt (by omega), List.getElem?_drop, List.getElem?_eq_getElem (by omega)]
          rfl
        · rw [if_neg hk1]
          show (if k < y then _ else _) = _
          by_cases hk2 : k < y
          · rw [if_pos hk2, if_pos (by omega)]
          · rw [if_neg hk2, if_neg (by omega)]
      · intro H hO
        repeat (first | refine opP_i (by first | exact qa | exact qs | exact nilCheck_ptr | exact offPtr_ptr | exact bin_eql | exact bin_neq | exact bin_lss | exact bin_gtr | exact bin_leq | exact bin_geq | exact un_not | exact pick_true | exact pick_false | exact qy | exact qn | exact qi | exact qj) ?_ | refine opW_i (by first | exact lenSl_sl | exact min_w | exact max_w) ?_ | refine wy ?_ | refine wn ?_ | refine wIf_t rfl ?_ | refine wIf_f rfl ?_ | refine cond_yes rfl ?_ | refine cond_no rfl ?_)
        exact ⟨_, by omega, y + 1, by omega, rfl, rfl, hO.set_r⟩
    have hy8 : y = 32 := by omega
    subst hy8
    have hsl : (⟨leV (bs.take 1), leV ((bs.drop 1).take 1), leV ((bs.drop 2).take 8), leV ((bs.drop 10).take 4), fun k => if k < 32 then ((bs.drop 14).take 32).getD k 0 else 0⟩ : Sl) = slOf bs := by
      unfold slOf
      congr 1
      funext k
      by_cases hk1 : k < 32
      · rw [if_pos hk1]
      · rw [if_neg hk1, List.getD_eq_getElem?_getD, List.getElem?_eq_none (by rw [List.length_take]; omega)]; rfl
    rw [hsl] at hO
    repeat (first | refine opP_i (by first | exact qa | exact qs | exact nilCheck_ptr | exact offPtr_ptr | exact bin_eql | exact bin_neq | exact bin_lss | exact bin_gtr | exact bin_leq | exact bin_geq | exact un_not | exact pick_true | exact pick_false | exact qy | exact qn | exact qi | exact qj) ?_ | refine opW_i (by first | exact lenSl_sl | exact min_w | exact max_w) ?_ | refine wy ?_ | refine wn ?_ | refine wIf_t rfl ?_ | refine wIf_f rfl ?_ | refine cond_yes rfl ?_ | refine cond_no rfl ?_)
    refine loadAll_at hO (X.length + 0) (at_r rfl) rfl (by omega) ?_
    refine ref10_Right_spec hO ?_
    intro H hO
    have hO' := hO
    rw [hX, List.append_assoc, List.append_assoc] at hO
    by_cases hr : SRight (slOf bs)
    · rw [if_pos hr] at hk
      rw [decide_eq_true hr]
      repeat (first | refine opP_i (by first | exact qa | exact qs | exact nilCheck_ptr | exact offPtr_ptr | exact bin_eql | exact bin_neq | exact bin_lss | exact bin_gtr | exact bin_leq | exact bin_geq | exact un_not | exact pick_true | exact pick_false | exact qy | exact qn | exact qi | exact qj) ?_ | refine opW_i (by first | exact lenSl_sl | exact min_w | exact max_w) ?_ | refine wy ?_ | refine wn ?_ | refine wIf_t rfl ?_ | refine wIf_f rfl ?_ | refine cond_yes rfl ?_ | refine cond_no rfl ?_)
      refine loadAll_at hO' (X.length + 0) (at_r rfl) rfl (by omega) ?_
      refine storeAll_at hO (Γ2.length + 0) (at_r rfl) rfl rfl rfl ?_
      intro H hO
      replace hO := hO.set_r
      refine loadAll_at hO (Γ2.length + 0) (at_r rfl) rfl (by omega) ?_
      exact hk _ hO.left r2'
    · rw [if_neg hr] at hk
      rw [decide_eq_false hr]
      repeat (first | refine opP_i (by first | exact qa | exact qs | exact nilCheck_ptr | exact offPtr_ptr | exact bin_eql | exact bin_neq | exact bin_lss | exact bin_gtr | exact bin_leq | exact bin_geq | exact un_not | exact pick_true | exact pick_false | exact qy | exact qn | exact qi | exact qj) ?_ | refine opW_i (by first | exact lenSl_sl | exact min_w | exact max_w) ?_ | refine wy ?_ | refine wn ?_ | refine wIf_t rfl ?_ | refine wIf_f rfl ?_ | refine cond_yes rfl ?_ | refine cond_no rfl ?_)
      refine opP_i b26 ?_
      refine storeAll_at hO (Γ2.length + 0) (at_r rfl) rfl rfl rfl ?_
      intro H hO
      replace hO := hO.set_r
      refine loadAll_at hO (Γ2.length + 0) (at_r rfl) rfl (by omega) ?_
      exact hk _ hO.left r2'
end T
set_option linter.unusedVariables false
set_option maxRecDepth 100000
namespace T
open Go Go.Ab
variable {H : Heap} {Γ : List (Nat × Blk)} {K : Value → Heap → Prop} {v w x : Value} {xs ys bs : List Int} {j p : Nat} {e : Int}
/-- a table of bytes -/
def tabOf (bs : List Int) : Tb := ⟨slOf (bs.take 46), slOf ((bs.drop 46).take 46), leV ((bs.drop 92).take 1), ((leV ((bs.drop 93).take 1) : Nat) : Int) - 1, leV ((bs.drop 94).take 8)⟩
def tParse (bs : List Int) : Tb × Int := if bs.length = 102 ∧ TRight (tabOf bs) then (tabOf bs, 0) else (tbz, 111)
theorem tk_bad {n : Nat} (h : e ≠ 0) : tkB xs e n = [] ∧ tkR xs e n = [] ∧ tkE xs e n = e := by
  unfold tkB tkR tkE
  rw [if_neg (fun h' => h h'.1), if_neg (fun h' => h h'.1), if_neg (fun h' => h h'.1), if_neg h]
  exact ⟨rfl, rfl, rfl⟩
theorem tk_short {n : Nat} (h : xs.length < n) : tkB xs 0 n = [] ∧ tkR xs 0 n = [] ∧ tkE xs 0 n = 51 := by
  unfold tkB tkR tkE
  rw [if_neg (by omega), if_neg (by omega), if_neg (by omega), if_pos rfl]
  exact ⟨rfl, rfl, rfl⟩
theorem tkR_bytes (hb : ∀ x ∈ xs, 0 ≤ x ∧ x ≤ 255) (n : Nat) (e : Int) : ∀ x ∈ tkR xs e n, 0 ≤ x ∧ x ≤ 255 := by
  unfold tkR
  split
  · exact fun x hx => hb x (List.mem_of_mem_drop hx)
  · simp
theorem tkR_len (xs : List Int) (e : Int) (n : Nat) : (tkR xs e n).length ≤ xs.length := by
  unfold tkR
  split
  · rw [List.length_drop]; omega
  · simp
theorem tkB_lt (hb : ∀ x ∈ xs, 0 ≤ x ∧ x ≤ 255) (e : Int) (n : Nat) : leV (tkB xs e n) < 256 ^ n := by
  have h1 := leV_lt (tkB xs e n) (RdB.bytes hb n e)
  have h2 : (256 : Nat) ^ (tkB xs e n).length ≤ 256 ^ n := Nat.pow_le_pow_right (by omega) (tkB_len xs e n)
  omega
/-- three numbers, and the end -/
theorem end3 (zs : List Int) : rEnd (tkR (tkR (tkR zs 0 1) (tkE zs 0 1) 1) (tkE (tkR zs 0 1) (tkE zs 0 1) 1) 8) (tkE (tkR (tkR zs 0 1) (tkE zs 0 1) 1) (tkE (tkR zs 0 1) (tkE zs 0 1) 1) 8) = 0 ↔ zs.length = 10 := by
  by_cases h1 : 1 ≤ zs.length
  · obtain ⟨_, a2, a3⟩ := tk_ok h1
    rw [a2, a3]
    have l1 : (zs.drop 1).length = zs.length - 1 := List.length_drop
    by_cases h2 : 1 ≤ (zs.drop 1).length
    · obtain ⟨_, b2, b3⟩ := tk_ok h2
      rw [b2, b3, List.drop_drop]
      have l2 : (zs.drop (1 + 1)).length = zs.length - 2 := by rw [List.length_drop]
      by_cases h3 : 8 ≤ (zs.drop (1 + 1)).length
      · obtain ⟨_, c2, c3⟩ := tk_ok h3
        rw [c2, c3]
        unfold rEnd
        rw [List.length_drop]
        by_cases h4 : 0 < (zs.drop (1 + 1)).length - 8
        · rw [if_pos ⟨rfl, h4⟩]; omega
        · rw [if_neg (by omega)]; omega
      · obtain ⟨_, c2, c3⟩ := tk_short (by omega : (zs.drop (1 + 1)).length < 8)
        rw [c2, c3]
        unfold rEnd
        rw [if_neg (by omega)]; omega
    · obtain ⟨_, b2, b3⟩ := tk_short (by omega : (zs.drop 1).length < 1)
      rw [b2, b3]
      obtain ⟨_, c2, c3⟩ := tk_bad (xs := []) (n := 8) (show (51 : Int) ≠ 0 by decide)
      rw [c2, c3]
      unfold rEnd
      rw [if_neg (by omega)]; omega
  · obtain ⟨_, a2, a3⟩ := tk_short (by omega : zs.length < 1)
    rw [a2, a3]
    obtain ⟨_, b2, b3⟩ := tk_bad (xs := []) (n := 1) (show (51 : Int) ≠ 0 by decide)
    rw [b2, b3]
    obtain ⟨_, c2, c3⟩ := tk_bad (xs := []) (n := 8) (show (51 : Int) ≠ 0 by decide)
    rw [c2, c3]
    unfold rEnd
    rw [if_neg (by omega)]; omega
theorem rSlot_ok (h : 46 ≤ xs.length) : rSlot xs 0 = if SRight (slOf (xs.take 46)) then (slOf (xs.take 46), 0) else (slz 0, 101) := by
  obtain ⟨k1, k2, k3⟩ := tk_ok h
  unfold rSlot
  rw [k1, k3, if_neg (fun h => h rfl)]
theorem rSlot_short (h : xs.length < 46) : rSlot xs 0 = (slz 0, 51) := by
  obtain ⟨k1, k2, k3⟩ := tk_short h
  unfold rSlot
  rw [k3, if_pos (by decide)]
set_option maxHeartbeats 8000000 in
theorem table_Parse_spec (hO : St H Γ) (hv : RdB Γ v bs) (hx : bs.length ≤ 1000000) (hb : ∀ x ∈ bs, 0 ≤ x ∧ x ≤ 255)
    (hk : ∀ H', St H' Γ → K (.tuple [agg (tbC (tParse bs).1), int (tParse bs).2].toArray) H') : wCall P n_table_Parse [v] H K := by
  apply table_Parse_ok; unfold table_Parse
  rw [zc29]
  refine new_at hO ?_
  intro q H hO
  refine New_spec hO hv.app ?_
  clear hO
  intro H pr hO
  rw [List.append_assoc] at hO
  refine new_at hO ?_
  clear hO
  intro p5 H hO
  rw [List.append_assoc] at hO
  have hO : St H (Γ ++ [(q, ⟨tbC tbz, true⟩), (pr, rdr v 0), (p5, ⟨tbC tbz, true⟩)]) := hO
  have bad : (¬ (bs.length = 102 ∧ TRight (tabOf bs))) → ∀ H', St H' Γ → K (.tuple [agg (tbC tbz), int 111].toArray) H' := fun h H' hO' => by
    have := hk _ hO'
    unfold tParse at this
    rw [if_neg h] at this
    exact this
  refine table_Parse_L0_ind (fun k l' H' => ∃ (y : Nat) (vv : Value) (t : Tb), y ≤ 2 ∧ k = 2 - y ∧ l' = [ptr q 0, int 0, ptr pr 0, ptr p5 0, int y] ∧ St H' (Γ ++ [(q, ⟨tbC tbz, true⟩), (pr, rdr vv 0), (p5, ⟨tbC t, true⟩)]) ∧ RdB Γ vv (bs.drop (46 * y)) ∧ 46 * y ≤ bs.length ∧ (1 ≤ y → t.a = slOf (bs.take 46)) ∧ (2 ≤ y → t.b = slOf ((bs.drop 46).take 46))) _ _ ?_ 2 _ _ ⟨0, v, tbz, by omega, by omega, rfl, hO, hv, by omega, (by omega), (by omega)⟩
  clear hO
  rintro k l' H' ⟨y, vv, t, hy, rfl, rfl, hO, hvv, hyl, ha1, ha2⟩
  unfold table_Parse_L0
  try simp only [nth_zero, nth_succ]
  repeat (first | refine opP_i (by first | exact qa | exact qs | exact nilCheck_ptr | exact offPtr_ptr | exact bin_eql | exact bin_neq | exact bin_lss | exact bin_gtr | exact bin_leq | exact bin_geq | exact un_not | exact pick_true | exact pick_false | exact qy | exact qn | exact qi | exact qj) ?_ | refine opW_i (by first | exact lenSl_sl | exact min_w | exact max_w) ?_ | refine wy ?_ | refine wn ?_ | refine wIf_t rfl ?_ | refine wIf_f rfl ?_ | refine cond_yes rfl ?_ | refine cond_no rfl ?_)
  have hzb : ∀ x ∈ bs.drop (46 * y), 0 ≤ x ∧ x ≤ 255 := fun x hx => hb x (List.mem_of_mem_drop hx)
  refine wIf_dec (fun h => ?_) (fun h => ?_)
  · refine slot_Read_spec hO (at_r (k := 1) rfl) hvv.app (by rw [List.length_drop]; omega) hzb ?_
    intro H v2 hO2 hi2
    unfold rdN at hO2
    rw [Go.Ab.set_r] at hO2
    refine opP_i ext0 ?_
    refine opP_i ext1 ?_
    rw [zc26]
    refine new_at hO2 ?_
    intro p7 H hO3
    rw [List.append_assoc] at hO3
    refine storeAll_at hO3 (Γ.length + 3) (at_r rfl) rfl rfl rfl ?_
    intro H hO4
    replace hO4 : St H (Γ ++ [(q, ⟨tbC tbz, true⟩), (pr, rdr v2 (tkE (bs.drop (46 * y)) 0 46)), (p5, ⟨tbC t, true⟩), (p7, ⟨slC (rSlot (bs.drop (46 * y)) 0).1, true⟩)]) := hO4.set_r
    have hix : Ix (y : Int) := by unfold Ix; omega
    have hxb := hix.bd
    by_cases hlen : 46 ≤ (bs.drop (46 * y)).length
    · obtain ⟨k1, k2, k3⟩ := tk_ok hlen
      rw [k3] at hO4
      rw [rSlot_ok hlen] at hO4 ⊢
      by_cases hr : SRight (slOf ((bs.drop (46 * y)).take 46))
      · rw [if_pos hr] at hO4 ⊢
        repeat (first | refine opP_i (by first | exact qa | exact qs | exact nilCheck_ptr | exact offPtr_ptr | exact bin_eql | exact bin_neq | exact bin_lss | exact bin_gtr | exact bin_leq | exact bin_geq | exact un_not | exact pick_true | exact pick_false | exact qy | exact qn | exact qi | exact qj) ?_ | refine opW_i (by first | exact lenSl_sl | exact min_w | exact max_w) ?_ | refine wy ?_ | refine wn ?_ | refine wIf_t rfl ?_ | refine wIf_f rfl ?_ | refine cond_yes rfl ?_ | refine cond_no rfl ?_ | refine ld hO 0 rfl rfl ?_ | refine ld hO 1 rfl rfl ?_ | refine ld hO 2 rfl rfl ?_ | refine ld hO 3 rfl rfl ?_ | refine ld hO 4 rfl rfl ?_ | refine ld hO 5 rfl rfl ?_)
        refine loadAll_at hO4 (Γ.length + 3) (at_r rfl) rfl (by omega) ?_
        repeat (first | refine opP_i (by first | exact qa | exact qs | exact nilCheck_ptr | exact offPtr_ptr | exact bin_eql | exact bin_neq | exact bin_lss | exact bin_gtr | exact bin_leq | exact bin_geq | exact un_not | exact pick_true | exact pick_false | exact qy | exact qn | exact qi | exact qj) ?_ | refine opW_i (by first | exact lenSl_sl | exact min_w | exact max_w) ?_ | refine wy ?_ | refine wn ?_ | refine wIf_t rfl ?_ | refine wIf_f rfl ?_ | refine cond_yes rfl ?_ | refine cond_no rfl ?_ | refine ld hO 0 rfl rfl ?_ | refine ld hO 1 rfl rfl ?_ | refine ld hO 2 rfl rfl ?_ | refine ld hO 3 rfl rfl ?_ | refine ld hO 4 rfl rfl ?_ | refine ld hO 5 rfl rfl ?_)
        refine store_slot (t := t) (x := (y : Int)) hO4 (Γ.length + 2) (at_r rfl) hix (by omega) ?_
        intro H hO5
        repeat (first | refine opP_i (by first | exact qa | exact qs | exact nilCheck_ptr | exact offPtr_ptr | exact bin_eql | exact bin_neq | exact bin_lss | exact bin_gtr | exact bin_leq | exact bin_geq | exact un_not | exact pick_true | exact pick_false | exact qy | exact qn | exact qi | exact qj) ?_ | refine opW_i (by first | exact lenSl_sl | exact min_w | exact max_w) ?_ | refine wy ?_ | refine wn ?_ | refine wIf_t rfl ?_ | refine wIf_f rfl ?_ | refine cond_yes rfl ?_ | refine cond_no rfl ?_ | refine ld hO 0 rfl rfl ?_ | refine ld hO 1 rfl rfl ?_ | refine ld hO 2 rfl rfl ?_ | refine ld hO 3 rfl rfl ?_ | refine ld hO 4 rfl rfl ?_ | refine ld hO 5 rfl rfl ?_)
        rw [List.length_drop] at hlen
        refine ⟨_, by omega, y + 1, v2, t.put y (slOf ((bs.drop (46 * y)).take 46)), by omega, rfl, rfl, hO5.set_r.keep 3, ?_, by omega, fun _ => ?_, fun h2 => ?_⟩
        · have := hi2 _ hvv
          rw [k2, List.drop_drop] at this
          rw [show 46 * (y + 1) = 46 * y + 46 by omega]
          exact this
        · match y, h with
          | 0, _ => rfl
          | 1, _ => exact ha1 (by omega)
        · have : y = 1 := by omega
          subst this
          rfl
      · rw [if_neg hr] at hO4 ⊢
        repeat (first | refine opP_i (by first | exact qa | exact qs | exact nilCheck_ptr | exact offPtr_ptr | exact bin_eql | exact bin_neq | exact bin_lss | exact bin_gtr | exact bin_leq | exact bin_geq | exact un_not | exact pick_true | exact pick_false | exact qy | exact qn | exact qi | exact qj) ?_ | refine opW_i (by first | exact lenSl_sl | exact min_w | exact max_w) ?_ | refine wy ?_ | refine wn ?_ | refine wIf_t rfl ?_ | refine wIf_f rfl ?_ | refine cond_yes rfl ?_ | refine cond_no rfl ?_ | refine ld hO 0 rfl rfl ?_ | refine ld hO 1 rfl rfl ?_ | refine ld hO 2 rfl rfl ?_ | refine ld hO 3 rfl rfl ?_ | refine ld hO 4 rfl rfl ?_ | refine ld hO 5 rfl rfl ?_)
        refine opP_i b29 ?_
        refine storeAll_at hO4 (Γ.length + 0) (at_r rfl) rfl rfl rfl ?_
        intro H hO5
        replace hO5 := hO5.set_r
        try simp only [nth_zero, nth_succ]
        refine loadAll_at hO5 (Γ.length + 0) (at_r rfl) rfl (by omega) ?_
        refine bad (fun hh => hr ?_) _ hO5.left
        match y, h with
        | 0, _ => exact hh.2.1
        | 1, _ => exact hh.2.2.1
    · obtain ⟨k1, k2, k3⟩ := tk_short (by omega : (bs.drop (46 * y)).length < 46)
      rw [k3] at hO4
      rw [rSlot_short (by omega)] at hO4 ⊢
      repeat (first | refine opP_i (by first | exact qa | exact qs | exact nilCheck_ptr | exact offPtr_ptr | exact bin_eql | exact bin_neq | exact bin_lss | exact bin_gtr | exact bin_leq | exact bin_geq | exact un_not | exact pick_true | exact pick_false | exact qy | exact qn | exact qi | exact qj) ?_ | refine opW_i (by first | exact lenSl_sl | exact min_w | exact max_w) ?_ | refine wy ?_ | refine wn ?_ | refine wIf_t rfl ?_ | refine wIf_f rfl ?_ | refine cond_yes rfl ?_ | refine cond_no rfl ?_ | refine ld hO 0 rfl rfl ?_ | refine ld hO 1 rfl rfl ?_ | refine ld hO 2 rfl rfl ?_ | refine ld hO 3 rfl rfl ?_ | refine ld hO 4 rfl rfl ?_ | refine ld hO 5 rfl rfl ?_)
      refine opP_i b29 ?_
      refine storeAll_at hO4 (Γ.length + 0) (at_r rfl) rfl rfl rfl ?_
      intro H hO5
      replace hO5 := hO5.set_r
      try simp only [nth_zero, nth_succ]
      refine loadAll_at hO5 (Γ.length + 0) (at_r rfl) rfl (by omega) ?_
      rw [List.length_drop] at hlen
      exact bad (fun hh => by omega) _ hO5.left
  · have hy2 : y = 2 := by omega
    subst hy2
    have ha := ha1 (by omega)
    have hb2 := ha2 (by omega)
    repeat (first | refine opP_i (by first | exact qa | exact qs | exact nilCheck_ptr | exact offPtr_ptr | exact bin_eql | exact bin_neq | exact bin_lss | exact bin_gtr | exact bin_leq | exact bin_geq | exact un_not | exact pick_true | exact pick_false | exact qy | exact qn | exact qi | exact qj) ?_ | refine opW_i (by first | exact lenSl_sl | exact min_w | exact max_w) ?_ | refine wy ?_ | refine wn ?_ | refine wIf_t rfl ?_ | refine wIf_f rfl ?_ | refine cond_yes rfl ?_ | refine cond_no rfl ?_)
    try simp only [nth_zero, nth_succ]
    have hzl : (bs.drop (46 * 2)).length = bs.length - 92 := by rw [List.length_drop]
    have he3 := end3 (bs.drop (46 * 2))
    have v1 : 10 = (bs.drop (46 * 2)).length → tkB (bs.drop (46 * 2)) 0 1 = (bs.drop 92).take 1 ∧ tkB (tkR (bs.drop (46 * 2)) 0 1) (tkE (bs.drop (46 * 2)) 0 1) 1 = (bs.drop 93).take 1 ∧ tkB (tkR (tkR (bs.drop (46 * 2)) 0 1) (tkE (bs.drop (46 * 2)) 0 1) 1) (tkE (tkR (bs.drop (46 * 2)) 0 1) (tkE (bs.drop (46 * 2)) 0 1) 1) 8 = (bs.drop 94).take 8 := by
      intro hl
      obtain ⟨a1, a2, a3⟩ := tk_ok (xs := bs.drop (46 * 2)) (n := 1) (by omega)
      rw [a1, a2, a3, List.drop_drop]
      obtain ⟨b1, b2, b3⟩ := tk_ok (xs := bs.drop (46 * 2 + 1)) (n := 1) (by rw [List.length_drop]; omega)
      rw [b1, b2, b3, List.drop_drop]
      obtain ⟨c1, _, _⟩ := tk_ok (xs := bs.drop (46 * 2 + 1 + 1)) (n := 8) (by rw [List.length_drop]; omega)
      rw [c1]
      exact ⟨rfl, rfl, rfl⟩
    generalize hzs : bs.drop (46 * 2) = zs at *
    refine rFixed_spec (k := 1) (by omega) hO (at_r (k := 1) rfl) hvv.app hzb ?_
    intro H w1 hO1 i1
    rw [Go.Ab.set_r] at hO1
    have hb1 := tkR_bytes hzb 1 0
    have hl1 := tkB_lt hzb 0 1
    refine opW_i (cvUi (by omega)) ?_
    refine rFixed_spec (k := 1) (by omega) hO1 (at_r (k := 1) rfl) (i1 _ hvv).app hb1 ?_
    intro H w2 hO2 i2
    rw [Go.Ab.set_r] at hO2
    have hbb2 := tkR_bytes hb1 1 (tkE zs 0 1)
    have hl2 := tkB_lt hb1 (tkE zs 0 1) 1
    refine opW_i (cvUi (by omega)) ?_
    repeat (first | refine opP_i (by first | exact qa | exact qs | exact nilCheck_ptr | exact offPtr_ptr | exact bin_eql | exact bin_neq | exact bin_lss | exact bin_gtr | exact bin_leq | exact bin_geq | exact un_not | exact pick_true | exact pick_false | exact qy | exact qn | exact qi | exact qj) ?_ | refine opW_i (by first | exact lenSl_sl | exact min_w | exact max_w) ?_ | refine wy ?_ | refine wn ?_ | refine wIf_t rfl ?_ | refine wIf_f rfl ?_ | refine cond_yes rfl ?_ | refine cond_no rfl ?_)
    refine store1_at hO2 (Γ.length + 2) (at_r rfl) rfl (show 0 + 72 < 75 by omega) (show _ = tbC { t with act := leV (tkB zs 0 1) } from rfl) ?_
    intro H hO3
    replace hO3 := hO3.set_r
    repeat (first | refine opP_i (by first | exact qa | exact qs | exact nilCheck_ptr | exact offPtr_ptr | exact bin_eql | exact bin_neq | exact bin_lss | exact bin_gtr | exact bin_leq | exact bin_geq | exact un_not | exact pick_true | exact pick_false | exact qy | exact qn | exact qi | exact qj) ?_ | refine opW_i (by first | exact lenSl_sl | exact min_w | exact max_w) ?_ | refine wy ?_ | refine wn ?_ | refine wIf_t rfl ?_ | refine wIf_f rfl ?_ | refine cond_yes rfl ?_ | refine cond_no rfl ?_)
    refine store1_at hO3 (Γ.length + 2) (at_r rfl) rfl (show 0 + 73 < 75 by omega) (show _ = tbC { t with act := leV (tkB zs 0 1), boo := ((leV (tkB (tkR zs 0 1) (tkE zs 0 1) 1) : Nat) : Int) + -1 } from rfl) ?_
    intro H hO4
    replace hO4 := hO4.set_r
    refine rFixed_spec (k := 8) (by omega) hO4 (at_r (k := 1) rfl) (i2 _ (i1 _ hvv)).app hbb2 ?_
    intro H w3 hO5 i3
    rw [Go.Ab.set_r] at hO5
    repeat (first | refine opP_i (by first | exact qa | exact qs | exact nilCheck_ptr | exact offPtr_ptr | exact bin_eql | exact bin_neq | exact bin_lss | exact bin_gtr | exact bin_leq | exact bin_geq | exact un_not | exact pick_true | exact pick_false | exact qy | exact qn | exact qi | exact qj) ?_ | refine opW_i (by first | exact lenSl_sl | exact min_w | exact max_w) ?_ | refine wy ?_ | refine wn ?_ | refine wIf_t rfl ?_ | refine wIf_f rfl ?_ | refine cond_yes rfl ?_ | refine cond_no rfl ?_)
    obtain ⟨t', ht'⟩ : ∃ t' : Tb, t' = { t with act := leV (tkB zs 0 1), boo := ((leV (tkB (tkR zs 0 1) (tkE zs 0 1) 1) : Nat) : Int) + -1, flo := leV (tkB (tkR (tkR zs 0 1) (tkE zs 0 1) 1) (tkE (tkR zs 0 1) (tkE zs 0 1) 1) 8) } := ⟨_, rfl⟩
    refine store1_at hO5 (Γ.length + 2) (at_r rfl) rfl (show 0 + 74 < 75 by omega) (show _ = tbC t' by rw [ht']; rfl) ?_
    intro H hO6
    replace hO6 := hO6.set_r
    have hzz := i3 _ (i2 _ (i1 _ hvv))
    have htab : 10 = zs.length → t' = tabOf bs := by
      intro hl
      obtain ⟨c1, c2, c3⟩ := v1 hl
      rw [ht', c1, c2, c3]
      unfold tabOf
      obtain ⟨ta, tb', tact, tboo, tflo⟩ := t
      have ha : ta = slOf (bs.take 46) := ha
      have hb2 : tb' = slOf ((bs.drop 46).take 46) := hb2
      rw [ha, hb2, show bs.drop 92 = zs from hzs]
      show (⟨_, _, _, _, _⟩ : Tb) = _
      rw [show ∀ a : Int, a + -1 = a - 1 from fun a => rfl]
    clear ht'
    generalize tkE (tkR (tkR zs 0 1) (tkE zs 0 1) 1) (tkE (tkR zs 0 1) (tkE zs 0 1) 1) 8 = e3 at *
    generalize tkR (tkR (tkR zs 0 1) (tkE zs 0 1) 1) (tkE (tkR zs 0 1) (tkE zs 0 1) 1) 8 = z3 at *
    replace hO6 : St H (Γ ++ [(q, ⟨tbC tbz, true⟩), (pr, rdr w3 e3), (p5, ⟨tbC t', true⟩)]) := hO6
    refine join_with (fun l' H' => l' = [ptr q 0, ptr p5 0, .bool (decide (¬ (bs.length = 102 ∧ TRight (tabOf bs))))] ∧ St H' (Γ ++ [(q, ⟨tbC tbz, true⟩), (pr, rdr w3 e3), (p5, ⟨tbC t', true⟩)])) ?_ ?_
    · refine rEnd_spec hO6 (at_r (k := 1) rfl) hzz.app ?_
      refine opP_i bin_neq ?_
      by_cases h10 : zs.length = 10
      · have hbl : bs.length = 102 := by omega
        rw [decide_eq_false (show ¬ (rEnd z3 e3 ≠ 0) from fun h => h (he3.2 h10))]
        repeat (first | refine opP_i (by first | exact qa | exact qs | exact nilCheck_ptr | exact offPtr_ptr | exact bin_eql | exact bin_neq | exact bin_lss | exact bin_gtr | exact bin_leq | exact bin_geq | exact un_not | exact pick_true | exact pick_false | exact qy | exact qn | exact qi | exact qj) ?_ | refine opW_i (by first | exact lenSl_sl | exact min_w | exact max_w) ?_ | refine wy ?_ | refine wn ?_ | refine wIf_t rfl ?_ | refine wIf_f rfl ?_ | refine cond_yes rfl ?_ | refine cond_no rfl ?_)
        refine loadAll_at hO6 (Γ.length + 2) (at_r rfl) rfl (by omega) ?_
        refine table_Right_spec hO6 ?_
        intro H hO7
        repeat (first | refine opP_i (by first | exact qa | exact qs | exact nilCheck_ptr | exact offPtr_ptr | exact bin_eql | exact bin_neq | exact bin_lss | exact bin_gtr | exact bin_leq | exact bin_geq | exact un_not | exact pick_true | exact pick_false | exact qy | exact qn | exact qi | exact qj) ?_ | refine opW_i (by first | exact lenSl_sl | exact min_w | exact max_w) ?_ | refine wy ?_ | refine wn ?_ | refine wIf_t rfl ?_ | refine wIf_f rfl ?_ | refine cond_yes rfl ?_ | refine cond_no rfl ?_)
        refine ⟨?_, hO7⟩
        rw [htab h10.symm]
        by_cases hr : TRight (tabOf bs) <;> simp [hr, hbl]
      · rw [decide_eq_true (show rEnd z3 e3 ≠ 0 from fun h => h10 (he3.1 h))]
        repeat (first | refine opP_i (by first | exact qa | exact qs | exact nilCheck_ptr | exact offPtr_ptr | exact bin_eql | exact bin_neq | exact bin_lss | exact bin_gtr | exact bin_leq | exact bin_geq | exact un_not | exact pick_true | exact pick_false | exact qy | exact qn | exact qi | exact qj) ?_ | refine opW_i (by first | exact lenSl_sl | exact min_w | exact max_w) ?_ | refine wy ?_ | refine wn ?_ | refine wIf_t rfl ?_ | refine wIf_f rfl ?_ | refine cond_yes rfl ?_ | refine cond_no rfl ?_)
        refine ⟨?_, hO6⟩
        rw [decide_eq_true (show ¬ (bs.length = 102 ∧ TRight (tabOf bs)) by omega)]
    clear hO6
    rintro l' H ⟨rfl, hO6⟩
    try simp only [nth_zero, nth_succ]
    refine wIf_dec (fun h => ?_) (fun h => ?_)
    · refine opP_i b29 ?_
      refine storeAll_at hO6 (Γ.length + 0) (at_r rfl) rfl rfl rfl ?_
      intro H hO7
      replace hO7 := hO7.set_r
      refine loadAll_at hO7 (Γ.length + 0) (at_r rfl) rfl (by omega) ?_
      exact bad h _ hO7.left
    · have h := Decidable.not_not.1 h
      refine loadAll_at hO6 (Γ.length + 2) (at_r rfl) rfl (by omega) ?_
      refine storeAll_at hO6 (Γ.length + 0) (at_r rfl) rfl rfl rfl ?_
      intro H hO7
      replace hO7 := hO7.set_r
      refine loadAll_at hO7 (Γ.length + 0) (at_r rfl) rfl (by omega) ?_
      have := hk _ hO7.left
      unfold tParse at this
      rw [if_pos h, ← htab (by omega)] at this
      exact this
end T
set_option linter.unusedVariables false
set_option maxRecDepth 100000
namespace T
open Go Go.Ab
variable {H : Heap} {Γ : List (Nat × Blk)} {K : Value → Heap → Prop} {v w x : Value} {xs ys bs : List Int} {j p : Nat} {e : Int}
/-- a slice of bytes that came in -/
def ArgB (Γ : List (Nat × Blk)) (v : Value) (xs : List Int) : Prop := (v = nilSl ∧ xs = []) ∨ ∃ (p j : Nat), v = sl p 0 xs.length 2 ∧ Γ[j]? = some (p, (⟨by8 xs, false⟩ : Blk))
theorem ArgB.rd (h : ArgB Γ v xs) : RdB Γ v xs := by
  rcases h with h | ⟨p, j, h1, h2⟩
  · exact .inl h
  · exact .inr ⟨p, 0, 2, h1, .inl rfl, .inr ⟨j, _, h2, by rw [List.drop_zero]; exact List.take_of_length_le (by simp)⟩⟩
theorem by8_simple (xs : List Int) : (by8 xs).all simpleB = true := by simp [simpleB, simple0]
theorem number_spec (hO : St H Γ) (hv : RdB Γ v bs) (hl : bs.length ≤ 8) (hbb : ∀ x ∈ bs, 0 ≤ x ∧ x ≤ 255) (hk : K (uint .u64 (leV bs)) H) : wCall P n_ref11_number [v] H K := by
  apply ref11_number_ok; unfold ref11_number
  refine opW_i hv.lenSl ?_
  refine ref11_number_L0_ind (fun k l' H' => ∃ y : Nat, y ≤ bs.length ∧ k = bs.length - y ∧ l' = [.int .u64 0, uint .u64 (leV (bs.take y)), uint .u64 (256 ^ y % 2 ^ 64), v, int bs.length, int y] ∧ H' = H) _ _ ?_ bs.length _ _ ⟨0, by omega, by omega, by simp [leV], rfl⟩
  rintro k l' H' ⟨y, hy, rfl, rfl, rfl⟩
  unfold ref11_number_L0
  try simp only [nth_zero, nth_succ]
  repeat (first | refine opP_i (by first | exact qa | exact qs | exact nilCheck_ptr | exact offPtr_ptr | exact bin_eql | exact bin_neq | exact bin_lss | exact bin_gtr | exact bin_leq | exact bin_geq | exact un_not | exact pick_true | exact pick_false | exact qy | exact qn | exact qi | exact qj) ?_ | refine opW_i (by first | exact lenSl_sl | exact min_w | exact max_w) ?_ | refine wy ?_ | refine wn ?_ | refine wIf_t rfl ?_ | refine wIf_f rfl ?_ | refine cond_yes rfl ?_ | refine cond_no rfl ?_)
  refine wIf_dec (fun h => ?_) (fun h => ?_)
  · have hyl : y < bs.length := by omega
    have hx := hbb _ (List.getElem_mem hyl)
    obtain ⟨s1, s2⟩ := sum_step hbb (show y < 8 by omega) hyl
    refine byte_at (n := y) hO hv rfl hyl ?_
    rw [uint_of hx.1]
    refine opW_i (cvU rfl) ?_
    rw [show bs[y].toNat % szU .u64 = bs[y].toNat from Nat.mod_eq_of_lt (show bs[y].toNat < 2 ^ 64 by omega)]
    refine opP_i (bin_mulU rfl) ?_
    refine opP_i (bin_addU rfl) ?_
    refine opP_i (bin_mulU (b := 256) rfl) ?_
    rw [show szU .u64 = 2 ^ 64 from rfl, Nat.mul_comm (256 ^ y % 2 ^ 64) bs[y].toNat, s1, s2]
    repeat (first | refine opP_i (by first | exact qa | exact qs | exact nilCheck_ptr | exact offPtr_ptr | exact bin_eql | exact bin_neq | exact bin_lss | exact bin_gtr | exact bin_leq | exact bin_geq | exact un_not | exact pick_true | exact pick_false | exact qy | exact qn | exact qi | exact qj) ?_ | refine opW_i (by first | exact lenSl_sl | exact min_w | exact max_w) ?_ | refine wy ?_ | refine wn ?_ | refine wIf_t rfl ?_ | refine wIf_f rfl ?_ | refine cond_yes rfl ?_ | refine cond_no rfl ?_)
    exact ⟨_, by omega, y + 1, by omega, rfl, rfl, rfl⟩
  · have e : y = bs.length := by omega
    subst e
    repeat (first | refine opP_i (by first | exact qa | exact qs | exact nilCheck_ptr | exact offPtr_ptr | exact bin_eql | exact bin_neq | exact bin_lss | exact bin_gtr | exact bin_leq | exact bin_geq | exact un_not | exact pick_true | exact pick_false | exact qy | exact qn | exact qi | exact qj) ?_ | refine opW_i (by first | exact lenSl_sl | exact min_w | exact max_w) ?_ | refine wy ?_ | refine wn ?_ | refine wIf_t rfl ?_ | refine wIf_f rfl ?_ | refine cond_yes rfl ?_ | refine cond_no rfl ?_)
    rw [List.take_of_length_le (Nat.le_refl _)]
    exact hk
theorem b100 (a : Option Addr) (n c : Nat) : (buildC P 100).f [(0, .slice a n c)] = some (agg [.slice a n c, int 0]) := by kernel_rfl
theorem b35 (s s' : Sl) : (buildC P 35).f [(0, agg (slC s)), (1, agg (slC s'))] = some (agg (slC s ++ slC s')) := by kernel_rfl
theorem b37 (s s' : Sl) (a b c : Int) : (buildC P 37).f [(0, agg (slC s ++ slC s')), (1, int a), (2, int b), (3, .int .u64 c)] = some (agg (tbC ⟨s, s', a, b, c⟩)) := by kernel_rfl
set_option maxHeartbeats 8000000 in
theorem ref11_Parse_spec (hO : St H Γ) (ha : ArgB Γ v bs) (hx : bs.length ≤ 1000000) (hb : ∀ x ∈ bs, 0 ≤ x ∧ x ≤ 255)
    (hk : ∀ H', St H' Γ → K (.tuple [agg (tbC (tParse bs).1), int (tParse bs).2].toArray) H') : wCall P n_ref11_Parse [v] H K := by
  apply ref11_Parse_ok; unfold ref11_Parse
  have hv := ha.rd
  rw [zc29]
  refine new_at hO ?_
  intro q H hO
  have bad : (¬ (bs.length = 102 ∧ TRight (tabOf bs))) → ∀ H', St H' Γ → K (.tuple [agg (tbC tbz), int 111].toArray) H' := fun h H' hO' => by
    have := hk _ hO'
    unfold tParse at this
    rw [if_neg h] at this
    exact this
  refine opW_i hv.lenSl ?_
  repeat (first | refine opP_i (by first | exact qa | exact qs | exact nilCheck_ptr | exact offPtr_ptr | exact bin_eql | exact bin_neq | exact bin_lss | exact bin_gtr | exact bin_leq | exact bin_geq | exact un_not | exact pick_true | exact pick_false | exact qy | exact qn | exact qi | exact qj) ?_ | refine opW_i (by first | exact lenSl_sl | exact min_w | exact max_w) ?_ | refine wy ?_ | refine wn ?_ | refine wIf_t rfl ?_ | refine wIf_f rfl ?_ | refine cond_yes rfl ?_ | refine cond_no rfl ?_)
  refine wIf_dec (fun h => ?_) (fun h => ?_)
  · refine opP_i b29 ?_
    refine storeAll_at hO (Γ.length + 0) (at_r rfl) rfl rfl rfl ?_
    intro H hO
    replace hO := hO.set_r
    refine loadAll_at hO (Γ.length + 0) (at_r rfl) rfl (by omega) ?_
    exact bad (by omega) _ hO.left
  have hl : bs.length = 102 := by omega
  obtain ⟨pv, jv, rfl, hjv⟩ : ∃ (p j : Nat), v = sl p 0 bs.length 2 ∧ Γ[j]? = some (p, (⟨by8 bs, false⟩ : Blk)) := by
    rcases ha with ⟨_, rfl⟩ | h
    · simp at hl
    · exact h
  have hne8 : by8 bs ≠ [] := by intro h; have := congrArg List.length h; simp at this; subst this; simp at hl
  refine opP_i (b100 _ _ _) ?_
  refine new_at hO ?_
  intro pr H hO
  rw [List.append_assoc] at hO
  have hO : St H (Γ ++ [(q, ⟨tbC tbz, true⟩), (pr, rdr (sl pv 0 bs.length 2) 0)]) := hO
  obtain ⟨k1, k2, k3⟩ := tk_ok (xs := bs) (n := 46) (by omega)
  refine ref10_Read_spec hO (at_r (k := 1) rfl) hv.app hx hb ?_
  intro H v2 hO i2
  unfold rdN at hO
  rw [Go.Ab.set_r, k3] at hO
  replace hO : St H (Γ ++ [(q, ⟨tbC tbz, true⟩), (pr, rdr v2 0)]) := hO
  have r2 := i2 _ hv
  rw [k2] at r2
  rw [rSlot_ok (by omega)]
  refine opP_i ext0 ?_
  refine opP_i ext1 ?_
  rw [zc26]
  refine new_at hO ?_
  intro p5 H hO
  rw [List.append_assoc] at hO
  refine storeAll_at hO (Γ.length + 2) (at_r rfl) rfl rfl rfl ?_
  intro H hO
  replace hO := hO.set_r
  by_cases h1 : SRight (slOf (bs.take 46))
  · rw [if_pos h1] at hO ⊢
    replace hO : St H (Γ ++ [(q, ⟨tbC tbz, true⟩), (pr, rdr v2 0), (p5, ⟨slC (slOf (bs.take 46)), true⟩)]) := hO
    repeat (first | refine opP_i (by first | exact qa | exact qs | exact nilCheck_ptr | exact offPtr_ptr | exact bin_eql | exact bin_neq | exact bin_lss | exact bin_gtr | exact bin_leq | exact bin_geq | exact un_not | exact pick_true | exact pick_false | exact qy | exact qn | exact qi | exact qj) ?_ | refine opW_i (by first | exact lenSl_sl | exact min_w | exact max_w) ?_ | refine wy ?_ | refine wn ?_ | refine wIf_t rfl ?_ | refine wIf_f rfl ?_ | refine cond_yes rfl ?_ | refine cond_no rfl ?_)
    have l2 : (bs.drop 46).length = 56 := by rw [List.length_drop]; omega
    have hb2 : ∀ x ∈ bs.drop 46, 0 ≤ x ∧ x ≤ 255 := fun x hx => hb x (List.mem_of_mem_drop hx)
    obtain ⟨m1, m2, m3⟩ := tk_ok (xs := bs.drop 46) (n := 46) (by omega)
    refine ref10_Read_spec hO (at_r (k := 1) rfl) r2.app (by omega) hb2 ?_
    intro H v3 hO i3
    unfold rdN at hO
    rw [Go.Ab.set_r, m3] at hO
    replace hO : St H (Γ ++ [(q, ⟨tbC tbz, true⟩), (pr, rdr v3 0), (p5, ⟨slC (slOf (bs.take 46)), true⟩)]) := hO
    rw [rSlot_ok (by omega)]
    refine opP_i ext0 ?_
    refine opP_i ext1 ?_
    refine new_at hO ?_
    intro p7 H hO
    rw [List.append_assoc] at hO
    refine storeAll_at hO (Γ.length + 3) (at_r rfl) rfl rfl rfl ?_
    intro H hO
    replace hO := hO.set_r
    obtain ⟨s2, e2, hs2⟩ : ∃ s2 e2, (if SRight (slOf ((bs.drop 46).take 46)) then (slOf ((bs.drop 46).take 46), (0 : Int)) else (slz 0, 101)) = (s2, e2) := ⟨_, _, rfl⟩
    rw [hs2] at hO ⊢
    replace hO : St H (Γ ++ [(q, ⟨tbC tbz, true⟩), (pr, rdr v3 0), (p5, ⟨slC (slOf (bs.take 46)), true⟩), (p7, ⟨slC s2, true⟩)]) := hO
    refine loadAll_at hO (Γ.length + 2) (at_r rfl) rfl (by omega) ?_
    refine loadAll_at hO (Γ.length + 3) (at_r rfl) rfl (by omega) ?_
    refine opP_i (b35 _ _) ?_
    have b92 := hb _ (List.getElem_mem (show 92 < bs.length by omega))
    have b93 := hb _ (List.getElem_mem (show 93 < bs.length by omega))
    refine opP_i (idxSl_ok (by omega) (by omega)) ?_
    refine load_at hO jv (at_l hjv) (v := .int .u8 bs[92]) (by simp [by8, hl]) ?_
    refine opW_i (cvInt_i (by omega) (by omega)) ?_
    refine opP_i (idxSl_ok (by omega) (by omega)) ?_
    refine load_at hO jv (at_l hjv) (v := .int .u8 bs[93]) (by simp [by8, hl]) ?_
    refine opW_i (cvInt_i (by omega) (by omega)) ?_
    repeat (first | refine opP_i (by first | exact qa | exact qs | exact nilCheck_ptr | exact offPtr_ptr | exact bin_eql | exact bin_neq | exact bin_lss | exact bin_gtr | exact bin_leq | exact bin_geq | exact un_not | exact pick_true | exact pick_false | exact qy | exact qn | exact qi | exact qj) ?_ | refine opW_i (by first | exact lenSl_sl | exact min_w | exact max_w) ?_ | refine wy ?_ | refine wn ?_ | refine wIf_t rfl ?_ | refine wIf_f rfl ?_ | refine cond_yes rfl ?_ | refine cond_no rfl ?_)
    obtain ⟨w4, e4, i4⟩ := slice_lo hv (n := 94) (by omega)
    refine opP_i e4 ?_
    refine number_spec hO (i4 _ hv).app (by rw [List.length_drop]; omega) (fun x hx => hb x (List.mem_of_mem_drop hx)) ?_
    refine ⟨same_at hO jv (at_l hjv) hO jv (at_l hjv) (by8_simple bs) (.inr hne8), same_at hO jv (at_l hjv) hO jv (at_l hjv) (by8_simple bs) (.inr hne8), same_at hO (Γ.length + 3) (at_r rfl) hO (Γ.length + 3) (at_r rfl) rfl, same_at hO (Γ.length + 2) (at_r rfl) hO (Γ.length + 2) (at_r rfl) rfl, ?_⟩
    refine opP_i (b37 _ _ _ _ _) ?_
    refine new_at hO ?_
    intro p8 H hO
    rw [List.append_assoc] at hO
    refine storeAll_at hO (Γ.length + 4) (at_r rfl) rfl rfl rfl ?_
    intro H hO
    replace hO := hO.set_r
    have ht : (⟨slOf (bs.take 46), s2, bs[92], bs[93] - 1, leV (bs.drop 94)⟩ : Tb) = ⟨slOf (bs.take 46), s2, (tabOf bs).act, (tabOf bs).boo, (tabOf bs).flo⟩ := by
      have q1 := leV1 (bs.drop 92) (by rw [List.length_drop]; omega) fun x hx => hb x (List.mem_of_mem_drop hx)
      have q2 := leV1 (bs.drop 93) (by rw [List.length_drop]; omega) fun x hx => hb x (List.mem_of_mem_drop hx)
      simp only [List.getElem_drop, Nat.add_zero] at q1 q2
      show _ = (⟨_, _, ((leV ((bs.drop 92).take 1) : Nat) : Int), ((leV ((bs.drop 93).take 1) : Nat) : Int) - 1, ((leV ((bs.drop 94).take 8) : Nat) : Int)⟩ : Tb)
      rw [q1, q2, List.take_of_length_le (l := bs.drop 94) (by rw [List.length_drop]; omega)]
    obtain ⟨t', ht'⟩ : ∃ t' : Tb, t' = ⟨slOf (bs.take 46), s2, bs[92], bs[93] - 1, leV (bs.drop 94)⟩ := ⟨_, rfl⟩
    rw [← ht'] at ht
    replace hO : St H (Γ ++ [(q, ⟨tbC tbz, true⟩), (pr, rdr v3 0), (p5, ⟨slC (slOf (bs.take 46)), true⟩), (p7, ⟨slC s2, true⟩), (p8, ⟨tbC t', true⟩)]) := by rw [ht']; exact hO
    clear ht'
    refine join_with (fun l' H' => l' = [ptr q 0, ptr p8 0, .bool (decide (¬ (bs.length = 102 ∧ TRight (tabOf bs))))] ∧ St H' (Γ ++ [(q, ⟨tbC tbz, true⟩), (pr, rdr v3 0), (p5, ⟨slC (slOf (bs.take 46)), true⟩), (p7, ⟨slC s2, true⟩), (p8, ⟨tbC t', true⟩)]) ∧ ((bs.length = 102 ∧ TRight (tabOf bs)) → t' = tabOf bs)) ?_ ?_
    · by_cases h2 : SRight (slOf ((bs.drop 46).take 46))
      · rw [if_pos h2] at hs2
        cases hs2
        have htt : t' = tabOf bs := ht
        repeat (first | refine opP_i (by first | exact qa | exact qs | exact nilCheck_ptr | exact offPtr_ptr | exact bin_eql | exact bin_neq | exact bin_lss | exact bin_gtr | exact bin_leq | exact bin_geq | exact un_not | exact pick_true | exact pick_false | exact qy | exact qn | exact qi | exact qj) ?_ | refine opW_i (by first | exact lenSl_sl | exact min_w | exact max_w) ?_ | refine wy ?_ | refine wn ?_ | refine wIf_t rfl ?_ | refine wIf_f rfl ?_ | refine cond_yes rfl ?_ | refine cond_no rfl ?_)
        refine loadAll_at hO (Γ.length + 4) (at_r rfl) rfl (by omega) ?_
        refine ref11_Right_spec hO ?_
        intro H hO
        repeat (first | refine opP_i (by first | exact qa | exact qs | exact nilCheck_ptr | exact offPtr_ptr | exact bin_eql | exact bin_neq | exact bin_lss | exact bin_gtr | exact bin_leq | exact bin_geq | exact un_not | exact pick_true | exact pick_false | exact qy | exact qn | exact qi | exact qj) ?_ | refine opW_i (by first | exact lenSl_sl | exact min_w | exact max_w) ?_ | refine wy ?_ | refine wn ?_ | refine wIf_t rfl ?_ | refine wIf_f rfl ?_ | refine cond_yes rfl ?_ | refine cond_no rfl ?_)
        refine ⟨?_, hO, fun _ => htt⟩
        rw [htt]
        by_cases hr : TRight (tabOf bs) <;> simp [hr, hl]
      · rw [if_neg h2] at hs2
        cases hs2
        repeat (first | refine opP_i (by first | exact qa | exact qs | exact nilCheck_ptr | exact offPtr_ptr | exact bin_eql | exact bin_neq | exact bin_lss | exact bin_gtr | exact bin_leq | exact bin_geq | exact un_not | exact pick_true | exact pick_false | exact qy | exact qn | exact qi | exact qj) ?_ | refine opW_i (by first | exact lenSl_sl | exact min_w | exact max_w) ?_ | refine wy ?_ | refine wn ?_ | refine wIf_t rfl ?_ | refine wIf_f rfl ?_ | refine cond_yes rfl ?_ | refine cond_no rfl ?_)
        refine ⟨?_, hO, fun h => absurd h.2.2.1 h2⟩
        rw [decide_eq_true (show ¬ (bs.length = 102 ∧ TRight (tabOf bs)) from fun h => h2 h.2.2.1)]
    clear hO
    rintro l' H ⟨rfl, hO, htt⟩
    try simp only [nth_zero, nth_succ]
    refine wIf_dec (fun h => ?_) (fun h => ?_)
    · refine opP_i b29 ?_
      refine storeAll_at hO (Γ.length + 0) (at_r rfl) rfl rfl rfl ?_
      intro H hO7
      replace hO7 := hO7.set_r
      refine loadAll_at hO7 (Γ.length + 0) (at_r rfl) rfl (by omega) ?_
      exact bad h _ hO7.left
    · have h := Decidable.not_not.1 h
      refine loadAll_at hO (Γ.length + 4) (at_r rfl) rfl (by omega) ?_
      refine storeAll_at hO (Γ.length + 0) (at_r rfl) rfl rfl rfl ?_
      intro H hO7
      replace hO7 := hO7.set_r
      refine loadAll_at hO7 (Γ.length + 0) (at_r rfl) rfl (by omega) ?_
      have := hk _ hO7.left
      unfold tParse at this
      rw [if_pos h, ← htt h] at this
      exact this
  · rw [if_neg h1] at hO ⊢
    repeat (first | refine opP_i (by first | exact qa | exact qs | exact nilCheck_ptr | exact offPtr_ptr | exact bin_eql | exact bin_neq | exact bin_lss | exact bin_gtr | exact bin_leq | exact bin_geq | exact un_not | exact pick_true | exact pick_false | exact qy | exact qn | exact qi | exact qj) ?_ | refine opW_i (by first | exact lenSl_sl | exact min_w | exact max_w) ?_ | refine wy ?_ | refine wn ?_ | refine wIf_t rfl ?_ | refine wIf_f rfl ?_ | refine cond_yes rfl ?_ | refine cond_no rfl ?_)
    refine opP_i b29 ?_
    refine storeAll_at hO (Γ.length + 0) (at_r rfl) rfl rfl rfl ?_
    intro H hO7
    replace hO7 := hO7.set_r
    refine loadAll_at hO7 (Γ.length + 0) (at_r rfl) rfl (by omega) ?_
    exact bad (fun h => h1 h.2.1) _ hO7.left
end T
set_option linter.unusedVariables false
set_option maxRecDepth 100000
namespace T
open Go Go.Ab
variable {xs ys zs bs : List Int} {e : Int} {c : Ch} {l : List Ch} {k n : Nat}
/-! the plain law of Get -/
abbrev numB (xs : List Int) (e : Int) (n : Nat) : Nat := leV (tkB xs e n)
abbrev By (xs : List Int) : Prop := ∀ x ∈ xs, 0 ≤ x ∧ x ≤ 255
/-- a change that was read: it, what is left, the error; the error of its slot -/
def dec (xs : List Int) (e : Int) : Ch × List Int × Int × Int :=
  if numB xs e 1 = 1 then (⟨1, numB (tkR xs e 1) (tkE xs e 1) 1, 0, (rSlot (tkR (tkR xs e 1) (tkE xs e 1) 1) (tkE (tkR xs e 1) (tkE xs e 1) 1)).1, 0⟩, tkR (tkR (tkR xs e 1) (tkE xs e 1) 1) (tkE (tkR xs e 1) (tkE xs e 1) 1) 46, tkE (tkR (tkR xs e 1) (tkE xs e 1) 1) (tkE (tkR xs e 1) (tkE xs e 1) 1) 46, (rSlot (tkR (tkR xs e 1) (tkE xs e 1) 1) (tkE (tkR xs e 1) (tkE xs e 1) 1)).2)
  else if numB xs e 1 = 2 then (⟨2, 0, numB (tkR xs e 1) (tkE xs e 1) 1, slz 0, 0⟩, tkR (tkR xs e 1) (tkE xs e 1) 1, tkE (tkR xs e 1) (tkE xs e 1) 1, 0)
  else if numB xs e 1 = 3 then (⟨3, 0, (numB (tkR xs e 1) (tkE xs e 1) 1 : Int) - 1, slz 0, 0⟩, tkR (tkR xs e 1) (tkE xs e 1) 1, tkE (tkR xs e 1) (tkE xs e 1) 1, 0)
  else if numB xs e 1 = 4 then (⟨4, 0, 0, slz 0, numB (tkR xs e 1) (tkE xs e 1) 8⟩, tkR (tkR xs e 1) (tkE xs e 1) 8, tkE (tkR xs e 1) (tkE xs e 1) 8, 0)
  else (⟨numB xs e 1, 0, 0, slz 0, 0⟩, tkR xs e 1, tkE xs e 1, 0)
def DOk (d : Ch × List Int × Int × Int) : Prop := d.2.2.2 = 0 ∧ d.2.2.1 = 0 ∧ CRight d.1
instance (d : Ch × List Int × Int × Int) : Decidable (DOk d) := by unfold DOk; infer_instance
def pGo : Nat → List Int → Int → Option (List Ch × List Int × Int)
  | 0, xs, e => some ([], xs, e)
  | k + 1, xs, e => if DOk (dec xs e) then (pGo k (dec xs e).2.1 (dec xs e).2.2.1).map fun r => ((dec xs e).1 :: r.1, r.2) else none
def rGo : Nat → List Int → Int → List Ch × List Int × Int
  | 0, xs, e => ([], xs, e)
  | k + 1, xs, e => ((dec xs e).1 :: (rGo k (dec xs e).2.1 (dec xs e).2.2.1).1, (rGo k (dec xs e).2.1 (dec xs e).2.2.1).2)
def tGet (bs : List Int) : List Ch × Int := if numB bs 0 1 ≤ 8 then (match pGo (numB bs 0 1) (tkR bs 0 1) (tkE bs 0 1) with
  | some r => if rEnd r.2.1 r.2.2 = 0 then (r.1, 0) else ([], 111)
  | none => ([], 111)) else ([], 111)
def tGetR (bs : List Int) : List Ch × Int := if rEnd (rGo (min (numB bs 0 1) 9) (tkR bs 0 1) (tkE bs 0 1)).2.1 (rGo (min (numB bs 0 1) 9) (tkR bs 0 1) (tkE bs 0 1)).2.2 = 0 ∧ lBy (rGo (min (numB bs 0 1) 9) (tkR bs 0 1) (tkE bs 0 1)).1 = bs then ((rGo (min (numB bs 0 1) 9) (tkR bs 0 1) (tkE bs 0 1)).1, 0) else ([], 111)
/-! numbers, and back -/
theorem leN_cons (n a y : Nat) (h : a < 256) : leN (y + 1) (a + 256 * n) = (a : Int) :: leN y n := by
  unfold leN
  rw [List.range_succ_eq_map, List.map_cons, List.map_map]
  congr 1
  · simp; omega
  · apply List.map_congr_left
    intro i _
    show (((a + 256 * n) / 256 ^ (i + 1) % 256 : Nat) : Int) = _
    rw [Nat.pow_succ, Nat.mul_comm (256 ^ i) 256, ← Nat.div_div_eq_div_mul, show (a + 256 * n) / 256 = n by omega]
theorem leN_leV : ∀ (bs : List Int), By bs → leN bs.length (leV bs) = bs
  | [], _ => rfl
  | x :: r, h => by
    have h1 := leN_leV r fun y hy => h y (List.mem_cons_of_mem _ hy)
    have h2 := h x List.mem_cons_self
    show leN (r.length + 1) (x.toNat + 256 * leV r) = _
    rw [leN_cons _ _ _ (by omega), h1, Int.toNat_of_nonneg h2.1]
theorem leN_take (hb : By xs) (h : n ≤ xs.length) : leN n (leV (xs.take n)) = xs.take n := by
  have := leN_leV (xs.take n) fun x hx => hb x (List.mem_of_mem_take hx)
  rwa [List.length_take, Nat.min_eq_left h] at this
theorem take_app (m n : Nat) : xs.take m ++ (xs.drop m).take n = xs.take (m + n) := by rw [List.take_add]
theorem sBy_of (hb : By xs) (h : xs.length = 46) : sBy (slOf xs) = xs := by
  have hd : ∀ m, By (xs.drop m) := fun m x hx => hb x (List.mem_of_mem_drop hx)
  have hdg : dgL (slOf xs).dg = (xs.drop 14).take 32 := by
    apply List.ext_getElem?
    intro i
    show ((List.range 32).map fun i => ((xs.drop 14).take 32).getD i 0)[i]? = _
    by_cases hi : i < 32
    · have hl : i < ((xs.drop 14).take 32).length := by rw [List.length_take, List.length_drop]; omega
      rw [List.getElem?_map, List.getElem?_range hi, List.getElem?_eq_getElem hl]
      show some (((xs.drop 14).take 32).getD i 0) = _
      rw [List.getD_eq_getElem?_getD, List.getElem?_eq_getElem hl]; rfl
    · rw [List.getElem?_eq_none (by simp; omega), List.getElem?_eq_none (by rw [List.length_take]; omega)]
  unfold sBy
  rw [hdg]
  show leN 1 (Int.toNat (leV (xs.take 1))) ++ leN 1 (Int.toNat (leV ((xs.drop 1).take 1))) ++ leN 8 (Int.toNat (leV ((xs.drop 2).take 8))) ++ leN 4 (Int.toNat (leV ((xs.drop 10).take 4))) ++ _ = _
  simp only [Int.toNat_natCast]
  rw [leN_take hb (by omega), leN_take (hd 1) (by rw [List.length_drop]; omega), leN_take (hd 2) (by rw [List.length_drop]; omega), leN_take (hd 10) (by rw [List.length_drop]; omega), take_app, take_app, take_app, take_app]
  exact List.take_of_length_le (by omega)
/-- errors stay -/
theorem dec_bad (h : e ≠ 0) : (dec xs e).2.2.1 ≠ 0 := by
  obtain ⟨a1, a2, a3⟩ := tk_bad (xs := xs) (n := 1) h
  have a4 : numB xs e 1 = 0 := by unfold numB; rw [a1]; rfl
  unfold dec
  rw [a4]
  simp only [show ¬ (0 : Nat) = 1 by decide, show ¬ (0 : Nat) = 2 by decide, show ¬ (0 : Nat) = 3 by decide, show ¬ (0 : Nat) = 4 by decide, if_false]
  rw [a3]; exact h
theorem rGo_bad : ∀ (k : Nat) (xs : List Int) (e : Int), e ≠ 0 → (rGo k xs e).2.2 ≠ 0
  | 0, _, _, h => h
  | k + 1, xs, e, h => rGo_bad k _ _ (dec_bad h)
theorem tk_zero (h : tkE xs 0 n = 0) : n ≤ xs.length := by
  unfold tkE at h
  split at h
  · omega
  · rw [if_pos rfl] at h; cases h
/-- a change that is read without an error is made of its bytes -/
theorem dec_by (hb : By xs) (he : (dec xs 0).2.2.1 = 0) (hc : CRight (dec xs 0).1) (hs : (dec xs 0).2.2.2 = 0 ∨ ∃ zs, xs = cBy (dec xs 0).1 ++ zs) : (dec xs 0).2.2.2 = 0 ∧ xs = cBy (dec xs 0).1 ++ (dec xs 0).2.1 := by
  have h1 : 1 ≤ xs.length := by
    by_cases h : 1 ≤ xs.length
    · exact h
    · exfalso
      obtain ⟨a1, a2, a3⟩ := tk_short (by omega : xs.length < 1)
      unfold dec at he
      have a4 : numB xs 0 1 = 0 := by unfold numB; rw [a1]; rfl
      rw [a4] at he
      simp only [show ¬ (0 : Nat) = 1 by decide, show ¬ (0 : Nat) = 2 by decide, show ¬ (0 : Nat) = 3 by decide, show ¬ (0 : Nat) = 4 by decide, if_false] at he
      rw [a3] at he; cases he
  obtain ⟨a1, a2, a3⟩ := tk_ok h1
  have hd : ∀ m, By (xs.drop m) := fun m x hx => hb x (List.mem_of_mem_drop hx)
  have hl1 : (xs.drop 1).length = xs.length - 1 := List.length_drop
  have hk1 : leN 1 (numB xs 0 1) = xs.take 1 := by unfold numB; rw [a1]; exact leN_take hb h1
  have h2 : xs.take 1 ++ xs.drop 1 = xs := List.take_append_drop 1 xs
  unfold dec at he hc hs ⊢
  rw [a2, a3] at he hc hs ⊢
  by_cases k1 : numB xs 0 1 = 1
  · rw [if_pos k1] at he hc hs ⊢
    have he : tkE (tkR (xs.drop 1) 0 1) (tkE (xs.drop 1) 0 1) 46 = 0 := he
    have hh2 : 1 ≤ (xs.drop 1).length := by
      by_cases h : 1 ≤ (xs.drop 1).length
      · exact h
      · exfalso
        obtain ⟨b1, b2, b3⟩ := tk_short (by omega : (xs.drop 1).length < 1)
        rw [b2, b3, (tk_bad (xs := []) (n := 46) (show (51 : Int) ≠ 0 by decide)).2.2] at he
        cases he
    obtain ⟨b1, b2, b3⟩ := tk_ok hh2
    rw [b2, b3, List.drop_drop] at he hc hs ⊢
    have h46 := tk_zero he
    obtain ⟨c1, c2, c3⟩ := tk_ok h46
    rw [rSlot_ok h46] at hc hs ⊢
    have hl2 : ((xs.drop (1 + 1)).take 46).length = 46 := by rw [List.length_take]; omega
    have hby : By ((xs.drop (1 + 1)).take 46) := fun x hx => hd 2 x (List.mem_of_mem_take hx)
    have hk2 : leN 1 (numB (xs.drop 1) 0 1) = (xs.drop 1).take 1 := by unfold numB; rw [b1]; exact leN_take (hd 1) hh2
    have hsp : xs = xs.take 1 ++ ((xs.drop 1).take 1 ++ ((xs.drop (1 + 1)).take 46 ++ (xs.drop (1 + 1)).drop 46)) := by
      rw [List.take_append_drop, show xs.drop (1 + 1) = (xs.drop 1).drop 1 by rw [List.drop_drop], List.take_append_drop, List.take_append_drop]
    by_cases hr : SRight (slOf ((xs.drop (1 + 1)).take 46))
    · rw [if_pos hr]
      refine ⟨rfl, ?_⟩
      show xs = (leN 1 1 ++ (leN 1 (Int.toNat (numB (xs.drop 1) 0 1)) ++ sBy' (slOf ((xs.drop (1 + 1)).take 46)))) ++ _
      rw [sBy'_right hr, sBy_of hby hl2, Int.toNat_natCast, hk2, c2]
      conv => rhs; rw [show leN 1 1 = xs.take 1 by rw [← hk1, k1]]
      simp only [List.append_assoc]
      exact hsp
    · exfalso
      rw [if_neg hr] at hs
      rcases hs with hs | ⟨zs, hs⟩
      · cases hs
      · have hz : SRight (slz 0) := slz_right (.inl rfl)
        have hs : xs = (leN 1 1 ++ (leN 1 (Int.toNat (numB (xs.drop 1) 0 1)) ++ sBy' (slz 0))) ++ zs := hs
        rw [sBy'_right hz] at hs
        have h46 : (xs.drop (1 + 1)).take 46 = sBy (slz 0) := by
          rw [hs]
          simp only [List.append_assoc]
          rw [show (1 + 1) = (leN 1 1 ++ leN 1 (Int.toNat (numB (xs.drop 1) 0 1))).length by simp [leN_len], ← List.append_assoc (leN 1 1), List.drop_left, List.take_left' sBy_len]
        apply hr
        rw [h46]
        decide +kernel
  rw [if_neg k1] at he hc hs ⊢
  by_cases k2 : numB xs 0 1 = 2
  · rw [if_pos k2] at he hc hs ⊢
    have hh2 := tk_zero he
    obtain ⟨b1, b2, b3⟩ := tk_ok hh2
    refine ⟨rfl, ?_⟩
    show xs = (leN 1 2 ++ leN 1 (Int.toNat (numB (xs.drop 1) 0 1))) ++ tkR (xs.drop 1) 0 1
    rw [Int.toNat_natCast, b2]
    unfold numB
    rw [b1, leN_take (hd 1) hh2, show leN 1 2 = xs.take 1 by rw [← hk1, k2], List.append_assoc, List.take_append_drop, List.take_append_drop]
  rw [if_neg k2] at he hc hs ⊢
  by_cases k3 : numB xs 0 1 = 3
  · rw [if_pos k3] at he hc hs ⊢
    have hh2 := tk_zero he
    obtain ⟨b1, b2, b3⟩ := tk_ok hh2
    refine ⟨rfl, ?_⟩
    show xs = (leN 1 3 ++ leN 1 (Int.toNat ((numB (xs.drop 1) 0 1 : Int) - 1 + 1))) ++ tkR (xs.drop 1) 0 1
    rw [show ((numB (xs.drop 1) 0 1 : Nat) : Int) - 1 + 1 = ((numB (xs.drop 1) 0 1 : Nat) : Int) by omega, Int.toNat_natCast, b2]
    unfold numB
    rw [b1, leN_take (hd 1) hh2, show leN 1 3 = xs.take 1 by rw [← hk1, k3], List.append_assoc, List.take_append_drop, List.take_append_drop]
  rw [if_neg k3] at he hc hs ⊢
  by_cases k4 : numB xs 0 1 = 4
  · rw [if_pos k4] at he hc hs ⊢
    have hh2 := tk_zero he
    obtain ⟨b1, b2, b3⟩ := tk_ok hh2
    refine ⟨rfl, ?_⟩
    show xs = (leN 1 4 ++ leN 8 (Int.toNat (numB (xs.drop 1) 0 8))) ++ tkR (xs.drop 1) 0 8
    rw [Int.toNat_natCast, b2]
    unfold numB
    rw [b1, leN_take (hd 1) hh2, show leN 1 4 = xs.take 1 by rw [← hk1, k4], List.append_assoc, List.take_append_drop, List.take_append_drop]
  rw [if_neg k4] at he hc hs ⊢
  exfalso
  unfold CRight at hc
  have hc : ((numB xs 0 1 : Nat) : Int) = 1 ∧ _ ∨ ((numB xs 0 1 : Nat) : Int) = 2 ∧ _ ∨ ((numB xs 0 1 : Nat) : Int) = 3 ∧ _ ∨ ((numB xs 0 1 : Nat) : Int) = 4 ∧ _ := hc
  omega
end T
set_option linter.unusedVariables false
set_option maxRecDepth 100000
namespace T
open Go Go.Ab
section
variable {xs ys zs bs : List Int} {e : Int} {c : Ch} {l : List Ch} {k n : Nat}
theorem dec_rest (hb : By xs) : By (dec xs e).2.1 := by
  unfold dec
  split
  · exact tkR_bytes (tkR_bytes (tkR_bytes hb _ _) _ _) _ _
  · split
    · exact tkR_bytes (tkR_bytes hb _ _) _ _
    · split
      · exact tkR_bytes (tkR_bytes hb _ _) _ _
      · split
        · exact tkR_bytes (tkR_bytes hb _ _) _ _
        · exact tkR_bytes hb _ _
theorem rGo_len : ∀ (k : Nat) (xs : List Int) (e : Int), (rGo k xs e).1.length = k
  | 0, _, _ => rfl
  | k + 1, xs, e => by show (_ :: _).length = _; rw [List.length_cons, rGo_len k]
theorem pGo_sound : ∀ (k : Nat) (xs : List Int) (r : List Ch × List Int × Int), By xs → pGo k xs 0 = some r → r.2.2 = 0 ∧ rGo k xs 0 = r ∧ xs = r.1.flatMap cBy ++ r.2.1 ∧ ∀ c ∈ r.1, CRight c
  | 0, xs, r, hb, h => by cases h; exact ⟨rfl, rfl, rfl, by simp⟩
  | k + 1, xs, r, hb, h => by
    have h : (if DOk (dec xs 0) then (pGo k (dec xs 0).2.1 (dec xs 0).2.2.1).map fun r => ((dec xs 0).1 :: r.1, r.2) else none) = some r := h
    by_cases hd : DOk (dec xs 0)
    · rw [if_pos hd] at h
      obtain ⟨hs, he, hc⟩ := hd
      rw [he] at h
      cases hp : pGo k (dec xs 0).2.1 0 with
      | none => rw [hp] at h; cases h
      | some r' =>
        rw [hp] at h
        cases h
        obtain ⟨i1, i2, i3, i4⟩ := pGo_sound k _ r' (dec_rest hb) hp
        refine ⟨i1, ?_, ?_, ?_⟩
        · show ((dec xs 0).1 :: (rGo k (dec xs 0).2.1 (dec xs 0).2.2.1).1, (rGo k (dec xs 0).2.1 (dec xs 0).2.2.1).2) = _
          rw [he, i2]
        · have := (dec_by hb he hc (.inl hs)).2
          show xs = cBy (dec xs 0).1 ++ r'.1.flatMap cBy ++ r'.2.1
          rw [List.append_assoc, ← i3]
          exact this
        · intro c hc'
          rcases List.mem_cons.1 hc' with rfl | hc'
          · exact hc
          · exact i4 c hc'
    · rw [if_neg hd] at h; cases h
theorem rGo_complete : ∀ (k : Nat) (xs zs : List Int), By xs → (rGo k xs 0).2.2 = 0 → (∀ c ∈ (rGo k xs 0).1, CRight c) → xs = (rGo k xs 0).1.flatMap cBy ++ zs → pGo k xs 0 = some (rGo k xs 0)
  | 0, xs, zs, hb, h, hc, hx => rfl
  | k + 1, xs, zs, hb, h, hc, hx => by
    have e0 : rGo (k + 1) xs 0 = ((dec xs 0).1 :: (rGo k (dec xs 0).2.1 (dec xs 0).2.2.1).1, (rGo k (dec xs 0).2.1 (dec xs 0).2.2.1).2) := rfl
    rw [e0] at h hc hx ⊢
    have he : (dec xs 0).2.2.1 = 0 := by
      by_cases he : (dec xs 0).2.2.1 = 0
      · exact he
      · exact absurd h (rGo_bad k _ _ he)
    rw [he] at h hc hx ⊢
    have hc1 : CRight (dec xs 0).1 := hc _ List.mem_cons_self
    have hx' : xs = cBy (dec xs 0).1 ++ ((rGo k (dec xs 0).2.1 0).1.flatMap cBy ++ zs) := by
      rw [← List.append_assoc]; exact hx
    obtain ⟨hs, hxx⟩ := dec_by hb he hc1 (.inr ⟨_, hx'⟩)
    have hrest : (dec xs 0).2.1 = (rGo k (dec xs 0).2.1 0).1.flatMap cBy ++ zs := List.append_cancel_left (hxx.symm.trans hx')
    have ih := rGo_complete k _ zs (dec_rest hb) h (fun c h' => hc c (List.mem_cons_of_mem _ h')) hrest
    show (if DOk (dec xs 0) then (pGo k (dec xs 0).2.1 (dec xs 0).2.2.1).map fun r => ((dec xs 0).1 :: r.1, r.2) else none) = _
    rw [if_pos ⟨hs, he, hc1⟩, he, ih]; rfl
theorem rEnd_zero (h : rEnd xs e = 0) : e = 0 ∧ xs = [] := by
  unfold rEnd at h
  split at h
  · cases h
  · rename_i h2
    refine ⟨h, ?_⟩
    by_cases h3 : 0 < xs.length
    · exact absurd ⟨h, h3⟩ h2
    · exact List.length_eq_zero_iff.1 (by omega)
theorem tGet_eq (hb : By bs) : tGet bs = tGetR bs := by
  unfold tGet tGetR
  by_cases h1 : 1 ≤ bs.length
  · obtain ⟨a1, a2, a3⟩ := tk_ok h1
    have hk1 : leN 1 (numB bs 0 1) = bs.take 1 := by unfold numB; rw [a1]; exact leN_take hb h1
    rw [a2, a3]
    have hd : By (bs.drop 1) := fun x hx => hb x (List.mem_of_mem_drop hx)
    generalize numB bs 0 1 = m at *
    by_cases h8 : m ≤ 8
    · rw [if_pos h8, Nat.min_eq_left (by omega)]
      cases hp : pGo m (bs.drop 1) 0 with
      | some r =>
        obtain ⟨i1, i2, i3, i4⟩ := pGo_sound m _ r hd hp
        have hlen : r.1.length = m := by rw [← i2]; exact rGo_len m _ _
        rw [i2]
        simp only
        by_cases hE : rEnd r.2.1 r.2.2 = 0
        · rw [if_pos hE, if_pos]
          refine ⟨hE, ?_⟩
          have hnil := (rEnd_zero hE).2
          unfold lBy
          rw [if_pos ⟨by omega, i4⟩, hlen, hk1]
          rw [hnil, List.append_nil] at i3
          rw [← i3, List.take_append_drop]
        · rw [if_neg hE, if_neg (fun h => hE h.1)]
      | none =>
        simp only
        rw [if_neg]
        rintro ⟨hE, hl⟩
        obtain ⟨he0, hnil⟩ := rEnd_zero hE
        have hlen := rGo_len m (bs.drop 1) 0
        unfold lBy at hl
        by_cases hok : TOk (rGo m (bs.drop 1) 0).1
        · rw [if_pos hok, hlen, hk1] at hl
          have hx : bs.drop 1 = (rGo m (bs.drop 1) 0).1.flatMap cBy ++ [] := by
            rw [List.append_nil]
            have := hl.trans (List.take_append_drop 1 bs).symm
            exact (List.append_cancel_left this).symm
          have := rGo_complete m _ [] hd he0 hok.2 hx
          rw [this] at hp; cases hp
        · rw [if_neg hok] at hl
          rw [← hl] at h1; simp at h1
    · rw [if_neg h8, if_neg]
      rintro ⟨_, hl⟩
      unfold lBy at hl
      have hlen := rGo_len (min m 9) (bs.drop 1) 0
      rw [if_neg (fun h => by have := h.1; omega)] at hl
      rw [← hl] at h1; simp at h1
  · obtain ⟨a1, a2, a3⟩ := tk_short (by omega : bs.length < 1)
    have a4 : numB bs 0 1 = 0 := by unfold numB; rw [a1]; rfl
    rw [a2, a3, a4]
    rw [if_pos (by omega), show min 0 9 = 0 from rfl]
    show (if rEnd [] 51 = 0 then _ else _) = _
    rw [if_neg (by decide), if_neg]
    exact fun h => absurd h.1 (by decide)
end
section
variable {H : Heap} {Γ : List (Nat × Blk)} {K : Value → Heap → Prop} {v w x : Value} {xs ys bs : List Int} {j p : Nat} {e : Int}
def chz : Ch := ⟨0, 0, 0, slz 0, 0⟩
theorem b41 : (buildC P 41).f [] = some (agg (chC chz)) := by kernel_rfl
theorem b41k (k : Int) : (buildC P 41).f [(0, int k)] = some (agg (chC ⟨k, 0, 0, slz 0, 0⟩)) := by kernel_rfl
theorem Inh.trans {v v' v'' : Value} {xs ys zs : List Int} (h : Inh v xs v' ys) (h2 : Inh v' ys v'' zs) : Inh v xs v'' zs := fun Γ' hr => h2 Γ' (h Γ' hr)
/-- what a change that is read comes to -/
def dCh (xs : List Int) (e : Int) : Ch × Int := if DOk (dec xs e) then ((dec xs e).1, 0) else (chz, 111)
set_option maxHeartbeats 8000000 in
theorem table_change_spec (hO : St H Γ) (hj : Γ[j]? = some (p, rdr v e)) (hv : RdB Γ v xs) (hx : xs.length ≤ 1000000) (hb : By xs)
    (hk : ∀ H' v2, St H' (Γ.set j (p, rdr v2 (dec xs e).2.2.1)) → Inh v xs v2 (dec xs e).2.1 → K (.tuple [agg (chC (dCh xs e).1), int (dCh xs e).2].toArray) H') : wCall P n_table_change [ptr p 0] H K := by
  apply table_change_ok; unfold table_change
  have hjl := (List.getElem?_eq_some_iff.1 hj).1
  rw [zc58]
  refine new_at hO ?_
  intro q H hO
  refine rFixed_spec (k := 1) (by omega) hO (at_l hj) hv.app hb ?_
  intro H v1 hO i1
  rw [List.set_append_left _ _ hjl] at hO
  have hl1 := tkB_lt hb e 1
  have hb1 := tkR_bytes hb 1 e
  have hx1 := tkR_len xs e 1
  refine opW_i (cvUi (by omega)) ?_
  refine opP_i (b41k _) ?_
  refine new_at hO ?_
  intro p4 H hO
  rw [List.append_assoc] at hO
  have hlen : ∀ y, (Γ.set j y).length = Γ.length := fun y => List.length_set
  have hj1 : ∀ v' e', (Γ.set j (p, rdr v' e'))[j]? = some (p, rdr v' e') := fun v' e' => set_at hj
  -- the context, with the reader and the change as they are
  let C : Value → Int → Ch → List (Nat × Blk) := fun v' e' c => Γ.set j (p, rdr v' e') ++ [(q, ⟨chC chz, true⟩), (p4, ⟨chC c, true⟩)]
  have rv : ∀ {v'' ys}, Inh v xs v'' ys → ∀ v' e' c, RdB (C v' e' c) v'' ys := fun hi v' e' c => (hi _ (rd_set hv hj (RdB.shape hv))).app
  have fx : ∀ {H : Heap} {v' : Value} {ys : List Int} {e' : Int} {c : Ch} {k : Nat} {K' : Value → Heap → Prop}, k ≤ 8 → By ys → St H (C v' e' c) → Inh v xs v' ys → (∀ H' v'', St H' (C v'' (tkE ys e' k) c) → Inh v xs v'' (tkR ys e' k) → K' (uint .u64 (leV (tkB ys e' k))) H') → wCall P n_code_Reader_Fixed [ptr p 0, int k] H K' := by
    intro H v' ys e' c k K' h8 hby hOc hi hkk
    refine rFixed_spec h8 hOc (at_l (hj1 v' e')) (rv hi v' e' c) hby ?_
    intro H' v'' hO' hi'
    rw [List.set_append_left _ _ (by rw [hlen]; exact hjl), List.set_set] at hO'
    exact hkk H' v'' hO' (hi.trans hi')
  refine storeAll_at hO ((Γ.set j (p, rdr v1 (tkE xs e 1))).length + 1) (at_r rfl) rfl rfl rfl ?_
  intro H hO
  replace hO : St H (C v1 (tkE xs e 1) ⟨(numB xs e 1 : Nat), 0, 0, slz 0, 0⟩) := hO.set_r
  obtain ⟨d, hd⟩ : ∃ d, d = dec xs e := ⟨_, rfl⟩
  unfold dCh at hk
  rw [← hd] at hk
  -- the last part
  have last : ∀ (H : Heap) (v2 : Value), d.2.2.2 = 0 → St H (C v2 d.2.2.1 d.1) → Inh v xs v2 d.2.1 → (wJoin (fun J_1 =>
      wCall P n_code_Reader_Err [ptr p 0] H fun t48 H68 =>
      opP ((binC P .neq 24 true).f t48 (.int .i64 0)) fun t49 =>
      wIf t49 (
      opP (pickA t49 (.bool true) undef) fun t54 =>
      J_1 [ptr q 0, ptr p4 0, t54] H68) (
      opW (loadAgg 40 (ptr p4 0) H68) fun t51 H72 =>
      wCall P n_table_right [t51] H72 fun t52 H74 =>
      opP (unA .not t52) fun t53 =>
      opP (pickA t49 (.bool true) t53) fun t54_1 =>
      J_1 [ptr q 0, ptr p4 0, t54_1] H74)) (fun l_1 H78 =>
      wIf (nth l_1 2) (
      opP ((buildC P 41).f []) fun t55 =>
      opW (storeTo 40 (nth l_1 0) t55 H78) fun u_8 H81 =>
      opW (loadAgg 40 (nth l_1 0) H81) fun r_1 _ =>
      K (.tuple [r_1, (.int .i64 111)].toArray) H81) (
      opW (loadAgg 40 (nth l_1 1) H78) fun t56 H84 =>
      opW (storeTo 40 (nth l_1 0) t56 H84) fun u_9 H86 =>
      opW (loadAgg 40 (nth l_1 0) H86) fun r_2 _ =>
      K (.tuple [r_2, (.int .i64 0)].toArray) H86))) := by
    intro H v2 hs hO hi
    refine join_with (fun l' H' => l' = [ptr q 0, ptr p4 0, .bool (decide (¬ DOk d))] ∧ St H' (C v2 d.2.2.1 d.1)) ?_ ?_
    · refine rErr_spec hO (at_l (hj1 _ _)) ?_
      refine opP_i bin_neq ?_
      refine wIf_dec (fun h => ?_) (fun h => ?_)
      · repeat (first | refine opP_i (by first | exact qa | exact qs | exact nilCheck_ptr | exact offPtr_ptr | exact bin_eql | exact bin_neq | exact bin_lss | exact bin_gtr | exact bin_leq | exact bin_geq | exact un_not | exact pick_true | exact pick_false | exact qy | exact qn | exact qi | exact qj) ?_ | refine opW_i (by first | exact lenSl_sl | exact min_w | exact max_w) ?_ | refine wy ?_ | refine wn ?_ | refine wIf_t rfl ?_ | refine wIf_f rfl ?_ | refine cond_yes rfl ?_ | refine cond_no rfl ?_)
        refine ⟨?_, hO⟩
        rw [decide_eq_true (show ¬ DOk d from fun h' => h h'.2.1)]
      · refine loadAll_at hO ((Γ.set j (p, rdr v2 d.2.2.1)).length + 1) (at_r rfl) rfl (by omega) ?_
        refine table_right_spec hO ?_
        intro H hO
        repeat (first | refine opP_i (by first | exact qa | exact qs | exact nilCheck_ptr | exact offPtr_ptr | exact bin_eql | exact bin_neq | exact bin_lss | exact bin_gtr | exact bin_leq | exact bin_geq | exact un_not | exact pick_true | exact pick_false | exact qy | exact qn | exact qi | exact qj) ?_ | refine opW_i (by first | exact lenSl_sl | exact min_w | exact max_w) ?_ | refine wy ?_ | refine wn ?_ | refine wIf_t rfl ?_ | refine wIf_f rfl ?_ | refine cond_yes rfl ?_ | refine cond_no rfl ?_)
        refine ⟨?_, hO⟩
        have : DOk d ↔ CRight d.1 := ⟨fun h' => h'.2.2, fun h' => ⟨hs, Decidable.not_not.1 h, h'⟩⟩
        by_cases hc : CRight d.1
        · rw [decide_eq_true hc, decide_eq_false (show ¬ ¬ DOk d from fun h' => h' (this.2 hc))]; rfl
        · rw [decide_eq_false hc, decide_eq_true (show ¬ DOk d from fun h' => hc (this.1 h'))]; rfl
    clear hO
    rintro l' H ⟨rfl, hO⟩
    try simp only [nth_zero, nth_succ]
    refine wIf_dec (fun h => ?_) (fun h => ?_)
    · rw [if_neg h] at hk
      refine opP_i b41 ?_
      refine storeAll_at hO ((Γ.set j (p, rdr v2 d.2.2.1)).length + 0) (at_r rfl) rfl rfl rfl ?_
      intro H hO
      replace hO := hO.set_r
      refine loadAll_at hO ((Γ.set j (p, rdr v2 d.2.2.1)).length + 0) (at_r rfl) rfl (by omega) ?_
      exact hk _ v2 hO.left hi
    · have h := Decidable.not_not.1 h
      rw [if_pos h] at hk
      refine loadAll_at hO ((Γ.set j (p, rdr v2 d.2.2.1)).length + 1) (at_r rfl) rfl (by omega) ?_
      refine storeAll_at hO ((Γ.set j (p, rdr v2 d.2.2.1)).length + 0) (at_r rfl) rfl rfl rfl ?_
      intro H hO
      replace hO := hO.set_r
      refine loadAll_at hO ((Γ.set j (p, rdr v2 d.2.2.1)).length + 0) (at_r rfl) rfl (by omega) ?_
      exact hk _ v2 hO.left hi
  unfold dec at hd
  refine join_inline ?_
  refine opP_i offPtr_ptr ?_
  refine load_at hO ((Γ.set j (p, rdr v1 (tkE xs e 1))).length + 1) (at_r rfl) (show _ = some (int ((numB xs e 1 : Nat) : Int)) from rfl) ?_
  have kk : ∀ n : Nat, ((numB xs e 1 : Nat) : Int) = (n : Int) ↔ numB xs e 1 = n := fun n => by omega
  by_cases k1 : numB xs e 1 = 1
  · rw [if_pos k1] at hd
    repeat (first | refine opP_i (by first | exact qa | exact qs | exact nilCheck_ptr | exact offPtr_ptr | exact bin_eql | exact bin_neq | exact bin_lss | exact bin_gtr | exact bin_leq | exact bin_geq | exact un_not | exact pick_true | exact pick_false | exact qy | exact qn | exact qi | exact qj) ?_ | refine opW_i (by first | exact lenSl_sl | exact min_w | exact max_w) ?_ | refine wy ?_ | refine wn ?_ | refine wIf_t rfl ?_ | refine wIf_f rfl ?_ | refine cond_yes rfl ?_ | refine cond_no rfl ?_)
    refine fx (k := 1) (by omega) hb1 hO i1 ?_
    intro H v2 hO i2
    have hl2 := tkB_lt hb1 (tkE xs e 1) 1
    have hb2 := tkR_bytes hb1 1 (tkE xs e 1)
    have hx2 := tkR_len (tkR xs e 1) (tkE xs e 1) 1
    refine opW_i (cvUi (by omega)) ?_
    refine opP_i offPtr_ptr ?_
    refine store1_at hO ((Γ.set j (p, rdr v2 (tkE (tkR xs e 1) (tkE xs e 1) 1))).length + 1) (at_r rfl) rfl (show 0 + 1 < 40 by omega) (show _ = chC ⟨1, numB (tkR xs e 1) (tkE xs e 1) 1, 0, slz 0, 0⟩ by rw [k1]; rfl) ?_
    intro H hO
    replace hO : St H (C v2 (tkE (tkR xs e 1) (tkE xs e 1) 1) ⟨1, numB (tkR xs e 1) (tkE xs e 1) 1, 0, slz 0, 0⟩) := hO.set_r
    refine slot_Read_spec hO (at_l (hj1 _ _)) (rv i2 _ _ _) (by omega) hb2 ?_
    intro H v3 hO i3
    unfold rdN at hO
    rw [List.set_append_left _ _ (by rw [hlen]; exact hjl), List.set_set] at hO
    have i3 := i2.trans i3
    refine opP_i ext0 ?_
    refine opP_i ext1 ?_
    rw [zc26]
    refine new_at hO ?_
    intro p5 H hO
    rw [List.append_assoc] at hO
    generalize rSlot (tkR (tkR xs e 1) (tkE xs e 1) 1) (tkE (tkR xs e 1) (tkE xs e 1) 1) = rs at *
    refine storeAll_at hO ((Γ.set j (p, rdr v3 (tkE (tkR (tkR xs e 1) (tkE xs e 1) 1) (tkE (tkR xs e 1) (tkE xs e 1) 1) 46))).length + 2) (at_r rfl) rfl rfl rfl ?_
    intro H hO
    replace hO := hO.set_r
    refine opP_i bin_neq ?_
    refine wIf_dec (fun h => ?_) (fun h => ?_)
    · refine opP_i b41 ?_
      refine storeAll_at hO ((Γ.set j (p, rdr v3 (tkE (tkR (tkR xs e 1) (tkE xs e 1) 1) (tkE (tkR xs e 1) (tkE xs e 1) 1) 46))).length + 0) (at_r rfl) rfl rfl rfl ?_
      intro H hO
      replace hO := hO.set_r
      refine loadAll_at hO ((Γ.set j (p, rdr v3 (tkE (tkR (tkR xs e 1) (tkE xs e 1) 1) (tkE (tkR xs e 1) (tkE xs e 1) 1) 46))).length + 0) (at_r rfl) rfl (by omega) ?_
      rw [if_neg (show ¬ DOk d from fun h' => h (by have := h'.1; rw [hd] at this; exact this))] at hk
      subst hd
      exact hk _ v3 hO.left i3
    · refine loadAll_at hO ((Γ.set j (p, rdr v3 (tkE (tkR (tkR xs e 1) (tkE xs e 1) 1) (tkE (tkR xs e 1) (tkE xs e 1) 1) 46))).length + 2) (at_r rfl) rfl (by omega) ?_
      refine opP_i offPtr_ptr ?_
      refine store_at hO ((Γ.set j (p, rdr v3 (tkE (tkR (tkR xs e 1) (tkE xs e 1) 1) (tkE (tkR xs e 1) (tkE xs e 1) 1) 46))).length + 1) (at_r rfl) rfl (show 0 + 3 + 36 ≤ 40 by omega) rfl ?_
      intro H hO
      replace hO := hO.set_r.keep 2
      try simp only [nth_zero, nth_succ]
      refine last _ v3 (by rw [hd]; exact Decidable.not_not.1 h) ?_ (by rw [hd]; exact i3)
      rw [hd]; exact hO
  rw [if_neg k1] at hd
  repeat (first | refine opP_i (by first | exact qa | exact qs | exact nilCheck_ptr | exact offPtr_ptr | exact bin_eql | exact bin_neq | exact bin_lss | exact bin_gtr | exact bin_leq | exact bin_geq | exact un_not | exact pick_true | exact pick_false | exact qy | exact qn | exact qi | exact qj) ?_ | refine opW_i (by first | exact lenSl_sl | exact min_w | exact max_w) ?_ | refine wy ?_ | refine wn ?_ | refine wIf_t rfl ?_ | refine wIf_f rfl ?_ | refine cond_yes rfl ?_ | refine cond_no rfl ?_)
  by_cases k2 : numB xs e 1 = 2
  · rw [if_pos k2] at hd
    repeat (first | refine opP_i (by first | exact qa | exact qs | exact nilCheck_ptr | exact offPtr_ptr | exact bin_eql | exact bin_neq | exact bin_lss | exact bin_gtr | exact bin_leq | exact bin_geq | exact un_not | exact pick_true | exact pick_false | exact qy | exact qn | exact qi | exact qj) ?_ | refine opW_i (by first | exact lenSl_sl | exact min_w | exact max_w) ?_ | refine wy ?_ | refine wn ?_ | refine wIf_t rfl ?_ | refine wIf_f rfl ?_ | refine cond_yes rfl ?_ | refine cond_no rfl ?_)
    refine fx (k := 1) (by omega) hb1 hO i1 ?_
    intro H v2 hO i2
    have hl2 := tkB_lt hb1 (tkE xs e 1) 1
    refine opW_i (cvUi (by omega)) ?_
    refine opP_i offPtr_ptr ?_
    refine store1_at hO ((Γ.set j (p, rdr v2 (tkE (tkR xs e 1) (tkE xs e 1) 1))).length + 1) (at_r rfl) rfl (show 0 + 2 < 40 by omega) (show _ = chC ⟨2, 0, numB (tkR xs e 1) (tkE xs e 1) 1, slz 0, 0⟩ by rw [k2]; rfl) ?_
    intro H hO
    replace hO := hO.set_r
    try simp only [nth_zero, nth_succ]
    refine last _ v2 (by rw [hd]) ?_ (by rw [hd]; exact i2)
    rw [hd]; exact hO
  rw [if_neg k2] at hd
  repeat (first | refine opP_i (by first | exact qa | exact qs | exact nilCheck_ptr | exact offPtr_ptr | exact bin_eql | exact bin_neq | exact bin_lss | exact bin_gtr | exact bin_leq | exact bin_geq | exact un_not | exact pick_true | exact pick_false | exact qy | exact qn | exact qi | exact qj) ?_ | refine opW_i (by first | exact lenSl_sl | exact min_w | exact max_w) ?_ | refine wy ?_ | refine wn ?_ | refine wIf_t rfl ?_ | refine wIf_f rfl ?_ | refine cond_yes rfl ?_ | refine cond_no rfl ?_)
  by_cases k3 : numB xs e 1 = 3
  · rw [if_pos k3] at hd
    repeat (first | refine opP_i (by first | exact qa | exact qs | exact nilCheck_ptr | exact offPtr_ptr | exact bin_eql | exact bin_neq | exact bin_lss | exact bin_gtr | exact bin_leq | exact bin_geq | exact un_not | exact pick_true | exact pick_false | exact qy | exact qn | exact qi | exact qj) ?_ | refine opW_i (by first | exact lenSl_sl | exact min_w | exact max_w) ?_ | refine wy ?_ | refine wn ?_ | refine wIf_t rfl ?_ | refine wIf_f rfl ?_ | refine cond_yes rfl ?_ | refine cond_no rfl ?_)
    refine fx (k := 1) (by omega) hb1 hO i1 ?_
    intro H v2 hO i2
    have hl2 := tkB_lt hb1 (tkE xs e 1) 1
    refine opW_i (cvUi (by omega)) ?_
    repeat (first | refine opP_i (by first | exact qa | exact qs | exact nilCheck_ptr | exact offPtr_ptr | exact bin_eql | exact bin_neq | exact bin_lss | exact bin_gtr | exact bin_leq | exact bin_geq | exact un_not | exact pick_true | exact pick_false | exact qy | exact qn | exact qi | exact qj) ?_ | refine opW_i (by first | exact lenSl_sl | exact min_w | exact max_w) ?_ | refine wy ?_ | refine wn ?_ | refine wIf_t rfl ?_ | refine wIf_f rfl ?_ | refine cond_yes rfl ?_ | refine cond_no rfl ?_)
    refine store1_at hO ((Γ.set j (p, rdr v2 (tkE (tkR xs e 1) (tkE xs e 1) 1))).length + 1) (at_r rfl) rfl (show 0 + 2 < 40 by omega) (show _ = chC ⟨3, 0, (numB (tkR xs e 1) (tkE xs e 1) 1 : Int) - 1, slz 0, 0⟩ by rw [k3]; rfl) ?_
    intro H hO
    replace hO := hO.set_r
    try simp only [nth_zero, nth_succ]
    refine last _ v2 (by rw [hd]) ?_ (by rw [hd]; exact i2)
    rw [hd]; exact hO
  rw [if_neg k3] at hd
  repeat (first | refine opP_i (by first | exact qa | exact qs | exact nilCheck_ptr | exact offPtr_ptr | exact bin_eql | exact bin_neq | exact bin_lss | exact bin_gtr | exact bin_leq | exact bin_geq | exact un_not | exact pick_true | exact pick_false | exact qy | exact qn | exact qi | exact qj) ?_ | refine opW_i (by first | exact lenSl_sl | exact min_w | exact max_w) ?_ | refine wy ?_ | refine wn ?_ | refine wIf_t rfl ?_ | refine wIf_f rfl ?_ | refine cond_yes rfl ?_ | refine cond_no rfl ?_)
  by_cases k4 : numB xs e 1 = 4
  · rw [if_pos k4] at hd
    repeat (first | refine opP_i (by first | exact qa | exact qs | exact nilCheck_ptr | exact offPtr_ptr | exact bin_eql | exact bin_neq | exact bin_lss | exact bin_gtr | exact bin_leq | exact bin_geq | exact un_not | exact pick_true | exact pick_false | exact qy | exact qn | exact qi | exact qj) ?_ | refine opW_i (by first | exact lenSl_sl | exact min_w | exact max_w) ?_ | refine wy ?_ | refine wn ?_ | refine wIf_t rfl ?_ | refine wIf_f rfl ?_ | refine cond_yes rfl ?_ | refine cond_no rfl ?_)
    refine fx (k := 8) (by omega) hb1 hO i1 ?_
    intro H v2 hO i2
    refine opP_i offPtr_ptr ?_
    refine store1_at hO ((Γ.set j (p, rdr v2 (tkE (tkR xs e 1) (tkE xs e 1) 8))).length + 1) (at_r rfl) rfl (show 0 + 39 < 40 by omega) (show _ = chC ⟨4, 0, 0, slz 0, numB (tkR xs e 1) (tkE xs e 1) 8⟩ by rw [k4]; rfl) ?_
    intro H hO
    replace hO := hO.set_r
    try simp only [nth_zero, nth_succ]
    refine last _ v2 (by rw [hd]) ?_ (by rw [hd]; exact i2)
    rw [hd]; exact hO
  rw [if_neg k4] at hd
  repeat (first | refine opP_i (by first | exact qa | exact qs | exact nilCheck_ptr | exact offPtr_ptr | exact bin_eql | exact bin_neq | exact bin_lss | exact bin_gtr | exact bin_leq | exact bin_geq | exact un_not | exact pick_true | exact pick_false | exact qy | exact qn | exact qi | exact qj) ?_ | refine opW_i (by first | exact lenSl_sl | exact min_w | exact max_w) ?_ | refine wy ?_ | refine wn ?_ | refine wIf_t rfl ?_ | refine wIf_f rfl ?_ | refine cond_yes rfl ?_ | refine cond_no rfl ?_)
  try simp only [nth_zero, nth_succ]
  refine last _ v1 (by rw [hd]) ?_ (by rw [hd]; exact i1)
  rw [hd]; exact hO
end
end T
set_option linter.unusedVariables false
set_option maxRecDepth 100000
namespace T
open Go Go.Ab
variable {H : Heap} {Γ : List (Nat × Blk)} {K : Value → Heap → Prop} {v w x : Value} {xs ys bs : List Int} {j p : Nat} {e : Int}
set_option maxHeartbeats 4000000 in
theorem table_Get_spec (hO : St H Γ) (hv : RdB Γ v bs) (hx : bs.length ≤ 1000000) (hb : By bs) (hk : Made Γ K (tGet bs)) : wCall P n_table_Get [v] H K := by
  apply table_Get_ok; unfold table_Get
  refine New_spec hO hv ?_
  clear hO
  intro H pr hO
  have bad : ∀ {H : Heap} {L : List (Nat × Blk)}, tGet bs = ([], 111) → St H (Γ ++ L) → K (.tuple [nilSl, int 111].toArray) H := fun {H L} h hO => by
    rw [h] at hk
    exact Made.none hk hO.left
  refine rFixed_spec (k := 1) (by omega) hO (at_r (k := 0) rfl) hv.app hb ?_
  intro H v1 hO i1
  rw [Go.Ab.set_r] at hO
  replace hO : St H (Γ ++ [(pr, rdr v1 (tkE bs 0 1))]) := hO
  have hl1 := tkB_lt hb 0 1
  refine opW_i (cvUi (by omega)) ?_
  obtain ⟨m, hm⟩ : ∃ m, m = numB bs 0 1 := ⟨_, rfl⟩
  rw [show leV (tkB bs 0 1) = m from hm.symm] at hl1 ⊢
  unfold tGet at bad hk
  rw [← hm] at bad hk
  repeat (first | refine opP_i (by first | exact qa | exact qs | exact nilCheck_ptr | exact offPtr_ptr | exact bin_eql | exact bin_neq | exact bin_lss | exact bin_gtr | exact bin_leq | exact bin_geq | exact un_not | exact pick_true | exact pick_false | exact qy | exact qn | exact qi | exact qj) ?_ | refine opW_i (by first | exact lenSl_sl | exact min_w | exact max_w) ?_ | refine wy ?_ | refine wn ?_ | refine wIf_t rfl ?_ | refine wIf_f rfl ?_ | refine cond_yes rfl ?_ | refine cond_no rfl ?_)
  refine wIf_dec (fun h => ?_) (fun h => ?_)
  · exact bad (if_neg (by omega)) hO
  rw [if_pos (by omega)] at bad hk
  refine table_Get_L0_ind (fun k l' H' => ∃ (y : Nat) (vv v' : Value) (zs : List Int) (ee : Int) (la : List Ch), y ≤ m ∧ k = m - y ∧ l' = [nilSl, int 0, ptr pr 0, v', int m, int y] ∧ St H' ((Γ ++ [(pr, rdr vv ee)]) ++ outB v' (chs la)) ∧ Own 40 v' la.length (chs la) ∧ la.length = y ∧ Inh v bs vv zs ∧ By zs ∧ zs.length ≤ 1000000 ∧ pGo m (tkR bs 0 1) (tkE bs 0 1) = (pGo (m - y) zs ee).map fun r => (la ++ r.1, r.2)) _ _ ?_ m _ _ ⟨0, v1, nilSl, tkR bs 0 1, tkE bs 0 1, [], by omega, by omega, rfl, ?_, Own.nil, rfl, i1, tkR_bytes hb 1 0, ?_, ?_⟩
  rotate_left
  · show St H ((Γ ++ [(pr, rdr v1 (tkE bs 0 1))]) ++ []); rw [List.append_nil]; exact hO
  · have := tkR_len bs 0 1; omega
  · show _ = (pGo m (tkR bs 0 1) (tkE bs 0 1)).map fun r => ([] ++ r.1, r.2)
    cases pGo m (tkR bs 0 1) (tkE bs 0 1) <;> rfl
  clear hO
  rintro k l' H' ⟨y, vv, v', zs, ee, la, hy, rfl, rfl, hO, ho, hla, hi, hzb, hzl, hpg⟩
  unfold table_Get_L0
  try simp only [nth_zero, nth_succ]
  repeat (first | refine opP_i (by first | exact qa | exact qs | exact nilCheck_ptr | exact offPtr_ptr | exact bin_eql | exact bin_neq | exact bin_lss | exact bin_gtr | exact bin_leq | exact bin_geq | exact un_not | exact pick_true | exact pick_false | exact qy | exact qn | exact qi | exact qj) ?_ | refine opW_i (by first | exact lenSl_sl | exact min_w | exact max_w) ?_ | refine wy ?_ | refine wn ?_ | refine wIf_t rfl ?_ | refine wIf_f rfl ?_ | refine cond_yes rfl ?_ | refine cond_no rfl ?_)
  refine wIf_dec (fun h2 => ?_) (fun h2 => ?_)
  · have hym : y < m := by omega
    have hst : pGo (m - y) zs ee = if DOk (dec zs ee) then (pGo (m - (y + 1)) (dec zs ee).2.1 (dec zs ee).2.2.1).map fun r => ((dec zs ee).1 :: r.1, r.2) else none := by
      rw [show m - y = (m - (y + 1)) + 1 by omega]; rfl
    refine table_change_spec hO (at_l (at_r (k := 0) rfl)) (hi _ hv).app.app hzl hzb ?_
    intro H v2 hO i2
    rw [List.set_append_left _ _ (by simp), Go.Ab.set_r] at hO
    replace hO : St H ((Γ ++ [(pr, rdr v2 (dec zs ee).2.2.1)]) ++ outB v' (chs la)) := hO
    refine opP_i ext0 ?_
    refine opP_i ext1 ?_
    rw [zc58]
    refine new_at hO ?_
    intro p7 H hO
    refine storeAll_at hO (((Γ ++ [(pr, rdr v2 (dec zs ee).2.2.1)]) ++ outB v' (chs la)).length + 0) (at_r rfl) rfl rfl rfl ?_
    intro H hO
    replace hO : St H (((Γ ++ [(pr, rdr v2 (dec zs ee).2.2.1)]) ++ outB v' (chs la)) ++ [(p7, ⟨chC (dCh zs ee).1, true⟩)]) := hO.set_r
    unfold dCh at hO ⊢
    by_cases hd : DOk (dec zs ee)
    · rw [if_pos hd] at hO hst ⊢
      repeat (first | refine opP_i (by first | exact qa | exact qs | exact nilCheck_ptr | exact offPtr_ptr | exact bin_eql | exact bin_neq | exact bin_lss | exact bin_gtr | exact bin_leq | exact bin_geq | exact un_not | exact pick_true | exact pick_false | exact qy | exact qn | exact qi | exact qj) ?_ | refine opW_i (by first | exact lenSl_sl | exact min_w | exact max_w) ?_ | refine wy ?_ | refine wn ?_ | refine wIf_t rfl ?_ | refine wIf_f rfl ?_ | refine cond_yes rfl ?_ | refine cond_no rfl ?_)
      refine loadAll_at hO (((Γ ++ [(pr, rdr v2 (dec zs ee).2.2.1)]) ++ outB v' (chs la)).length + 0) (at_r rfl) rfl (by omega) ?_
      refine newSl_at hO (bs1 _ _) ?_
      intro q H hO
      refine append_ch (Γ := Γ ++ [(pr, rdr v2 (dec zs ee).2.2.1)]) (St.mid hO) ho (by omega) ?_
      intro H v'' hO ho'
      repeat (first | refine opP_i (by first | exact qa | exact qs | exact nilCheck_ptr | exact offPtr_ptr | exact bin_eql | exact bin_neq | exact bin_lss | exact bin_gtr | exact bin_leq | exact bin_geq | exact un_not | exact pick_true | exact pick_false | exact qy | exact qn | exact qi | exact qj) ?_ | refine opW_i (by first | exact lenSl_sl | exact min_w | exact max_w) ?_ | refine wy ?_ | refine wn ?_ | refine wIf_t rfl ?_ | refine wIf_f rfl ?_ | refine cond_yes rfl ?_ | refine cond_no rfl ?_)
      refine ⟨_, by omega, y + 1, v2, v'', (dec zs ee).2.1, (dec zs ee).2.2.1, la ++ [(dec zs ee).1], by omega, rfl, rfl, hO, ho', by simp [hla], hi.trans i2, dec_rest hzb, ?_, ?_⟩
      · have : (dec zs ee).2.1.length ≤ zs.length := by
          unfold dec
          have a1 := tkR_len zs ee 1
          split
          · exact Nat.le_trans (tkR_len _ _ _) (Nat.le_trans (tkR_len _ _ _) a1)
          · split
            · exact Nat.le_trans (tkR_len _ _ _) a1
            · split
              · exact Nat.le_trans (tkR_len _ _ _) a1
              · split
                · exact Nat.le_trans (tkR_len _ _ _) a1
                · exact a1
        omega
      · rw [hpg, hst, Option.map_map]
        congr 1
        funext r
        simp
    · rw [if_neg hd] at hO hst ⊢
      repeat (first | refine opP_i (by first | exact qa | exact qs | exact nilCheck_ptr | exact offPtr_ptr | exact bin_eql | exact bin_neq | exact bin_lss | exact bin_gtr | exact bin_leq | exact bin_geq | exact un_not | exact pick_true | exact pick_false | exact qy | exact qn | exact qi | exact qj) ?_ | refine opW_i (by first | exact lenSl_sl | exact min_w | exact max_w) ?_ | refine wy ?_ | refine wn ?_ | refine wIf_t rfl ?_ | refine wIf_f rfl ?_ | refine cond_yes rfl ?_ | refine cond_no rfl ?_)
      try simp only [nth_zero, nth_succ]
      rw [hst] at hpg
      rw [hpg] at bad
      exact bad rfl hO.left.left
  · have e : y = m := by omega
    subst e
    rw [show y - y = 0 by omega] at hpg
    have hpg : pGo y (tkR bs 0 1) (tkE bs 0 1) = some (la ++ [], zs, ee) := hpg
    rw [List.append_nil] at hpg
    rw [hpg] at bad hk
    repeat (first | refine opP_i (by first | exact qa | exact qs | exact nilCheck_ptr | exact offPtr_ptr | exact bin_eql | exact bin_neq | exact bin_lss | exact bin_gtr | exact bin_leq | exact bin_geq | exact un_not | exact pick_true | exact pick_false | exact qy | exact qn | exact qi | exact qj) ?_ | refine opW_i (by first | exact lenSl_sl | exact min_w | exact max_w) ?_ | refine wy ?_ | refine wn ?_ | refine wIf_t rfl ?_ | refine wIf_f rfl ?_ | refine cond_yes rfl ?_ | refine cond_no rfl ?_)
    try simp only [nth_zero, nth_succ]
    refine rEnd_spec hO (at_l (at_r (k := 0) rfl)) (hi _ hv).app.app ?_
    refine opP_i bin_neq ?_
    refine wIf_dec (fun h3 => ?_) (fun h3 => ?_)
    · exact bad (if_neg h3) hO.left
    · have hk : Made Γ K (la, 0) := by
        have := hk
        simp only at this
        rw [if_pos (Decidable.not_not.1 h3)] at this
        exact this
      exact hk _ v' (St.mid hO) ho
end T
set_option linter.unusedVariables false
set_option maxRecDepth 100000
namespace T
open Go Go.Ab
section
variable {xs ys bs : List Int} {e : Int} {c : Ch} {l : List Ch} {k n : Nat}
theorem slOf_dg (hb : By xs) (i : Nat) : 0 ≤ (slOf xs).dg i ∧ (slOf xs).dg i ≤ 255 := by
  show 0 ≤ ((xs.drop 14).take 32).getD i 0 ∧ ((xs.drop 14).take 32).getD i 0 ≤ 255
  rw [List.getD_eq_getElem?_getD]
  cases h : ((xs.drop 14).take 32)[i]? with
  | none => exact ⟨by show (0 : Int) ≤ 0; omega, by show (0 : Int) ≤ 255; omega⟩
  | some y => exact hb y (List.mem_of_mem_drop (List.mem_of_mem_take (List.mem_of_getElem? h)))
def CBy (c : Ch) : Prop := (∀ i, 0 ≤ c.to.dg i ∧ c.to.dg i ≤ 255) ∧ 0 ≤ c.ver
theorem rSlot_dg (hb : By xs) (i : Nat) : 0 ≤ (rSlot xs e).1.dg i ∧ (rSlot xs e).1.dg i ≤ 255 := by
  have z : 0 ≤ (slz 0).dg i ∧ (slz 0).dg i ≤ 255 := ⟨by show (0 : Int) ≤ 0; omega, by show (0 : Int) ≤ 255; omega⟩
  unfold rSlot
  split
  · exact z
  · split
    · exact slOf_dg (RdB.bytes hb 46 e) i
    · exact z
theorem dec_cby (hb : By xs) : CBy (dec xs e).1 := by
  have z : ∀ i, 0 ≤ (slz 0).dg i ∧ (slz 0).dg i ≤ 255 := fun i => ⟨by show (0 : Int) ≤ 0; omega, by show (0 : Int) ≤ 255; omega⟩
  unfold dec
  split
  · exact ⟨rSlot_dg (tkR_bytes (tkR_bytes hb _ _) _ _), Int.le_refl _⟩
  · split
    · exact ⟨z, Int.le_refl _⟩
    · split
      · exact ⟨z, Int.le_refl _⟩
      · split
        · exact ⟨z, Int.natCast_nonneg _⟩
        · exact ⟨z, Int.le_refl _⟩
theorem rGo_cby : ∀ (k : Nat) (xs : List Int) (e : Int), By xs → ∀ c ∈ (rGo k xs e).1, CBy c
  | 0, _, _, _ => fun c hc => (by cases hc)
  | k + 1, xs, e, hb => fun c hc => by
    rcases List.mem_cons.1 hc with rfl | hc
    · exact dec_cby hb
    · exact rGo_cby k _ _ (dec_rest hb) c hc
theorem By.app {xs ys : List Int} (h : By xs) (h2 : By ys) : By (xs ++ ys) := fun x hx => by
  rcases List.mem_append.1 hx with hx | hx
  · exact h x hx
  · exact h2 x hx
theorem By_leN (y n : Nat) : By (leN y n) := by
  intro x hx
  obtain ⟨i, _, rfl⟩ := List.mem_map.1 hx
  have : n / 256 ^ i % 256 < 256 := Nat.mod_lt _ (by omega)
  omega
theorem By_sBy' {s : Sl} (h : ∀ i, 0 ≤ s.dg i ∧ s.dg i ≤ 255) : By (sBy' s) := by
  unfold sBy'
  split
  · unfold sBy
    refine (((((By_leN _ _).app (By_leN _ _)).app (By_leN _ _)).app (By_leN _ _)).app ?_)
    intro x hx
    obtain ⟨i, _, rfl⟩ := List.mem_map.1 hx
    exact h i
  · exact fun x hx => (by cases hx)
theorem By_cBy {c : Ch} (h : CBy c) : By (cBy c) := by
  unfold cBy
  refine (By_leN _ _).app ?_
  split
  · exact (By_leN _ _).app (By_sBy' h.1)
  · split
    · exact By_leN _ _
    · split
      · exact By_leN _ _
      · exact By_leN _ _
theorem By_lBy (h : ∀ c ∈ l, CBy c) : By (lBy l) := by
  unfold lBy
  split
  · refine (By_leN _ _).app ?_
    intro x hx
    obtain ⟨c, hc, hx⟩ := List.mem_flatMap.1 hx
    exact By_cBy (h c hc) x hx
  · exact fun x hx => (by cases hx)
theorem byte_inj {a b : Int} (ha : 0 ≤ a ∧ a ≤ 255) (hb : 0 ≤ b ∧ b ≤ 255) (h : UInt8.ofNat a.toNat = UInt8.ofNat b.toNat) : a = b := by
  have := congrArg UInt8.toNat h
  rw [UInt8.toNat_ofNat', UInt8.toNat_ofNat'] at this
  rw [Nat.mod_eq_of_lt (by omega), Nat.mod_eq_of_lt (by omega)] at this
  omega
theorem bytes_inj : ∀ {xs ys : List Int}, By xs → By ys → (xs.map fun n => UInt8.ofNat n.toNat) = ys.map (fun n => UInt8.ofNat n.toNat) → xs = ys
  | [], [], _, _, _ => rfl
  | [], _ :: _, _, _, h => by cases h
  | _ :: _, [], _, _, h => by cases h
  | x :: xs, y :: ys, hx, hy, h => by
    simp only [List.map_cons, List.cons.injEq] at h
    rw [byte_inj (hx x List.mem_cons_self) (hy y List.mem_cons_self) h.1, bytes_inj (fun z hz => hx z (List.mem_cons_of_mem _ hz)) (fun z hz => hy z (List.mem_cons_of_mem _ hz)) h.2]
theorem str_neq (t : TypeId) (c : Bool) (hx : By xs) (hy : By ys) : (binC P .neq t c).f (strB xs) (strB ys) = some (.bool (decide (xs ≠ ys))) := by
  show some (Value.bool !((xs.map fun n => UInt8.ofNat n.toNat) == ys.map fun n => UInt8.ofNat n.toNat)) = _
  by_cases h : xs = ys
  · subst h
    rw [decide_eq_false (fun h => h rfl), show ((xs.map fun n => UInt8.ofNat n.toNat) == xs.map fun n => UInt8.ofNat n.toNat) = true from beq_self_eq_true _]; rfl
  · rw [decide_eq_true h]
    have : ((xs.map fun n => UInt8.ofNat n.toNat) == ys.map fun n => UInt8.ofNat n.toNat) = false := by
      cases hb : ((xs.map fun n => UInt8.ofNat n.toNat) == ys.map fun n => UInt8.ofNat n.toNat) with
      | false => rfl
      | true => exact absurd (bytes_inj hx hy (eq_of_beq hb)) h
    rw [this]; rfl
theorem dec_len : (dec xs e).2.1.length ≤ xs.length := by
  unfold dec
  have a1 := tkR_len xs e 1
  split
  · exact Nat.le_trans (tkR_len _ _ _) (Nat.le_trans (tkR_len _ _ _) a1)
  · split
    · exact Nat.le_trans (tkR_len _ _ _) a1
    · split
      · exact Nat.le_trans (tkR_len _ _ _) a1
      · split
        · exact Nat.le_trans (tkR_len _ _ _) a1
        · exact a1
end
section
variable {H : Heap} {Γ : List (Nat × Blk)} {K : Value → Heap → Prop} {v w x : Value} {xs ys bs : List Int} {j p : Nat} {e : Int}
set_option maxHeartbeats 8000000 in
theorem ref11_Get_spec (hO : St H Γ) (ha : ArgB Γ v bs) (hx : bs.length ≤ 1000000) (hb : By bs) (hk : Made Γ K (tGetR bs)) : wCall P n_ref11_Get [v] H K := by
  apply ref11_Get_ok; unfold ref11_Get
  have hv := ha.rd
  obtain ⟨av, nv, cv, ev⟩ := RdB.shape hv
  refine opP_i (show (buildC P 100).f [(0, v)] = some (agg [v, int 0]) by rw [ev]; exact b100 _ _ _) ?_
  refine new_at hO ?_
  clear hO
  intro pr H hO
  replace hO : St H (Γ ++ [(pr, rdr v 0)]) := hO
  refine FixedOf_spec (k := 1) (by omega) hO (at_r (k := 0) rfl) hv.app hx hb ?_
  intro H v1 hO i1
  unfold rdN at hO
  rw [Go.Ab.set_r] at hO
  replace hO : St H (Γ ++ [(pr, rdr v1 (tkE bs 0 1))]) := hO
  have hl1 := tkB_lt hb 0 1
  refine opW_i (cvUi (by omega)) ?_
  obtain ⟨m, hm⟩ : ∃ m, m = numB bs 0 1 := ⟨_, rfl⟩
  rw [show leV (tkB bs 0 1) = m from hm.symm] at hl1 ⊢
  unfold tGetR at hk
  rw [← hm] at hk
  refine newSl_at hO (bs0 _) ?_
  intro r0 H hO
  obtain ⟨M, hM⟩ : ∃ M, M = min m 9 := ⟨_, rfl⟩
  rw [← hM] at hk
  obtain ⟨G, hG⟩ : ∃ G, G = rGo M (tkR bs 0 1) (tkE bs 0 1) := ⟨_, rfl⟩
  rw [← hG] at hk
  have hGc : ∀ c ∈ G.1, CBy c := by rw [hG]; exact rGo_cby _ _ _ (tkR_bytes hb _ _)
  refine ref11_Get_L0_ind (fun k l' H' => ∃ (y : Nat) (vv v' : Value) (zs : List Int) (ee : Int) (la : List Ch), y ≤ M ∧ k = M - y ∧ l' = [v, nilSl, int 0, ptr pr 0, int m, v', int y] ∧ St H' ((Γ ++ [(pr, rdr vv ee)]) ++ outB v' (chs la)) ∧ Own 40 v' la.length (chs la) ∧ la.length = y ∧ Inh v bs vv zs ∧ By zs ∧ zs.length ≤ 1000000 ∧ G = (la ++ (rGo (M - y) zs ee).1, (rGo (M - y) zs ee).2)) _ _ ?_ M _ _ ⟨0, v1, sl r0 0 0 81, tkR bs 0 1, tkE bs 0 1, [], by omega, by omega, rfl, hO, .inr ⟨r0, .inr rfl, rfl⟩, rfl, i1, tkR_bytes hb 1 0, by have := tkR_len bs 0 1; omega, by rw [hG]; rfl⟩
  clear hO
  rintro k l' H' ⟨y, vv, v', zs, ee, la, hy, rfl, rfl, hO, ho, hla, hi, hzb, hzl, hpg⟩
  unfold ref11_Get_L0
  -- the end
  have fin : y = M → wJoin (fun J =>
      wCall P n_ref05_End [ptr pr 0] H' fun t66 H13 =>
      opP ((binC P .neq 3 true).f t66 (.int .i64 0)) fun t67 =>
      wIf t67 (
      opP (pickA t67 (.bool true) undef) fun t75 =>
      J [v', t75] H13) (
      wCall P n_ref11_Put [v'] H13 fun t70 H17 =>
      opW (bytesToStr t70 H17) fun t71 H19 =>
      opW (bytesToStr v H19) fun t73 H21 =>
      cSame (sameB H13 H17) (idsOf [v]) ∧ (opP ((binC P .neq 9 false).f t71 t73) fun t74 =>
      opP (pickA t67 (.bool true) t74) fun t75_1 =>
      J [v', t75_1] H21))) (fun l_1 H25 =>
      wIf (nth l_1 1) (
      K (.tuple [(.slice none 0 0), (.int .i64 111)].toArray) H25) (
      K (.tuple [(nth l_1 0), (.int .i64 0)].toArray) H25)) := by
    intro hyM
    subst hyM
    have hpg : G = (la, zs, ee) := by
      rw [show y - y = 0 by omega] at hpg
      rw [hpg]
      show (la ++ [], _) = _
      rw [List.append_nil]; rfl
    rw [hpg] at hk hGc
    refine join_with (fun l' H2 => l' = [v', .bool (decide (¬ (rEnd zs ee = 0 ∧ lBy la = bs)))] ∧ St H2 ((Γ ++ [(pr, rdr vv ee)]) ++ outB v' (chs la))) ?_ ?_
    · refine ref05_End_spec hO (at_l (at_r (k := 0) rfl)) (hi _ hv).app.app ?_
      refine opP_i bin_neq ?_
      refine wIf_dec (fun h3 => ?_) (fun h3 => ?_)
      · repeat (first | refine opP_i (by first | exact qa | exact qs | exact nilCheck_ptr | exact offPtr_ptr | exact bin_eql | exact bin_neq | exact bin_lss | exact bin_gtr | exact bin_leq | exact bin_geq | exact un_not | exact pick_true | exact pick_false | exact qy | exact qn | exact qi | exact qj) ?_ | refine opW_i (by first | exact lenSl_sl | exact min_w | exact max_w) ?_ | refine wy ?_ | refine wn ?_ | refine wIf_t rfl ?_ | refine wIf_f rfl ?_ | refine cond_yes rfl ?_ | refine cond_no rfl ?_)
        refine ⟨?_, hO⟩
        rw [decide_eq_true (show ¬ (rEnd zs ee = 0 ∧ lBy la = bs) from fun h => h3 h.1)]
      · refine ref11_Put_spec hO (RdC.own ho).app' (by omega) (fun c hc => (hGc c hc).2) ?_
        intro H2 v5 c5 hO2 h5
        refine opW_i (h5.rd.app'.str hO2) ?_
        refine opW_i (hv.app.app.app.str hO2) ?_
        refine ⟨?_, ?_⟩
        · have hbe : by8 bs ≠ [] := by
            intro hbe
            have hbn : bs = [] := List.map_eq_nil_iff.1 hbe
            have h51 : tkE bs 0 1 = 51 := (tk_short (by rw [hbn]; simp)).2.2
            have hbad := rGo_bad y (tkR bs 0 1) (tkE bs 0 1) (by rw [h51]; decide)
            rw [← hG, hpg] at hbad
            exact hbad (rEnd_zero (Decidable.not_not.1 h3)).1
          have hOx := hO
          have hOy := hO2
          rcases ha with ⟨rfl, _⟩ | ⟨pa, ja, rfl, hja⟩
          · rfl
          · exact same_at (o := 0) hOx ja (at_l (at_l hja)) hOy ja (at_l (at_l (at_l hja))) (by8_simple bs) (.inr hbe)
        · refine opP_i (str_neq _ _ (By_lBy hGc) hb) ?_
          repeat (first | refine opP_i (by first | exact qa | exact qs | exact nilCheck_ptr | exact offPtr_ptr | exact bin_eql | exact bin_neq | exact bin_lss | exact bin_gtr | exact bin_leq | exact bin_geq | exact un_not | exact pick_true | exact pick_false | exact qy | exact qn | exact qi | exact qj) ?_ | refine opW_i (by first | exact lenSl_sl | exact min_w | exact max_w) ?_ | refine wy ?_ | refine wn ?_ | refine wIf_t rfl ?_ | refine wIf_f rfl ?_ | refine cond_yes rfl ?_ | refine cond_no rfl ?_)
          refine ⟨?_, hO2.left⟩
          have h3 := Decidable.not_not.1 h3
          rw [decide_eq_decide.2 (show lBy la ≠ bs ↔ ¬ (rEnd zs ee = 0 ∧ lBy la = bs) from ⟨fun h h' => h h'.2, fun h h' => h ⟨h3, h'⟩⟩)]
    rintro l' H2 ⟨rfl, hO2⟩
    try simp only [nth_zero, nth_succ]
    refine wIf_dec (fun h => ?_) (fun h => ?_)
    · rw [if_neg h] at hk
      exact Made.none hk hO2.left.left
    · rw [if_pos (Decidable.not_not.1 h)] at hk
      exact hk _ v' (St.mid hO2) ho
  try simp only [nth_zero, nth_succ]
  refine join_with (fun l' H2 => l' = [v, nilSl, int 0, ptr pr 0, int m, v', int y] ∧ H2 = H' ∧ y < M) ?_ ?_
  · repeat (first | refine opP_i (by first | exact qa | exact qs | exact nilCheck_ptr | exact offPtr_ptr | exact bin_eql | exact bin_neq | exact bin_lss | exact bin_gtr | exact bin_leq | exact bin_geq | exact un_not | exact pick_true | exact pick_false | exact qy | exact qn | exact qi | exact qj) ?_ | refine opW_i (by first | exact lenSl_sl | exact min_w | exact max_w) ?_ | refine wy ?_ | refine wn ?_ | refine wIf_t rfl ?_ | refine wIf_f rfl ?_ | refine cond_yes rfl ?_ | refine cond_no rfl ?_)
    refine wIf_dec (fun h2 => ?_) (fun h2 => ?_)
    · repeat (first | refine opP_i (by first | exact qa | exact qs | exact nilCheck_ptr | exact offPtr_ptr | exact bin_eql | exact bin_neq | exact bin_lss | exact bin_gtr | exact bin_leq | exact bin_geq | exact un_not | exact pick_true | exact pick_false | exact qy | exact qn | exact qi | exact qj) ?_ | refine opW_i (by first | exact lenSl_sl | exact min_w | exact max_w) ?_ | refine wy ?_ | refine wn ?_ | refine wIf_t rfl ?_ | refine wIf_f rfl ?_ | refine cond_yes rfl ?_ | refine cond_no rfl ?_)
      refine wIf_dec (fun h3 => ?_) (fun h3 => ?_)
      · exact ⟨rfl, rfl, by omega⟩
      · exact fin (by omega)
    · repeat (first | refine opP_i (by first | exact qa | exact qs | exact nilCheck_ptr | exact offPtr_ptr | exact bin_eql | exact bin_neq | exact bin_lss | exact bin_gtr | exact bin_leq | exact bin_geq | exact un_not | exact pick_true | exact pick_false | exact qy | exact qn | exact qi | exact qj) ?_ | refine opW_i (by first | exact lenSl_sl | exact min_w | exact max_w) ?_ | refine wy ?_ | refine wn ?_ | refine wIf_t rfl ?_ | refine wIf_f rfl ?_ | refine cond_yes rfl ?_ | refine cond_no rfl ?_)
      exact fin (by omega)
  rintro l' H2 ⟨rfl, rfl, hyM⟩
  clear fin
  try simp only [nth_zero, nth_succ]
  have hst : rGo (M - y) zs ee = ((dec zs ee).1 :: (rGo (M - (y + 1)) (dec zs ee).2.1 (dec zs ee).2.2.1).1, (rGo (M - (y + 1)) (dec zs ee).2.1 (dec zs ee).2.2.1).2) := by
    rw [show M - y = (M - (y + 1)) + 1 by omega]; rfl
  have hrest := dec_rest (e := ee) hzb
  have hdl := dec_len (xs := zs) (e := ee)
  obtain ⟨d, hd⟩ : ∃ d, d = dec zs ee := ⟨_, rfl⟩
  rw [← hd] at hst hrest hdl
  let X : Value → Int → List (Nat × Blk) := fun v'' e'' => (Γ ++ [(pr, rdr v'' e'')]) ++ outB v' (chs la)
  have rv : ∀ {v'' ys}, Inh v bs v'' ys → ∀ v3 e3 L, RdB (X v3 e3 ++ L) v'' ys := fun hi v3 e3 L => (hi _ hv).app.app.app
  have fx : ∀ {H : Heap} {v2 : Value} {ys : List Int} {e2 : Int} {L : List (Nat × Blk)} {k : Nat} {K' : Value → Heap → Prop}, k ≤ 8 → By ys → ys.length ≤ 1000000 → St H (X v2 e2 ++ L) → Inh v bs v2 ys → (∀ H' v3, St H' (X v3 (tkE ys e2 k) ++ L) → Inh v bs v3 (tkR ys e2 k) → K' (uint .u64 (leV (tkB ys e2 k))) H') → wCall P n_ref05_FixedOf [ptr pr 0, int k] H K' := by
    intro H v2 ys e2 L k K' h8 hby hyl hOc hi hkk
    refine FixedOf_spec h8 hOc (at_l (at_l (at_r (k := 0) rfl))) (rv hi v2 e2 L) hyl hby ?_
    intro H' v3 hO' hi'
    unfold rdN at hO'
    rw [List.set_append_left _ _ (by show Γ.length + 0 < ((Γ ++ [_]) ++ outB v' (chs la)).length; simp), List.set_append_left _ _ (by simp), Go.Ab.set_r] at hO'
    exact hkk H' v3 hO' (hi.trans hi')
  -- the last part
  have last : ∀ (H : Heap) (v2 : Value) (p8 : Nat), St H (X v2 d.2.2.1 ++ [(p8, ⟨chC d.1, true⟩)]) → Inh v bs v2 d.2.1 → opW (loadAgg 40 (ptr p8 0) H) fun t62 H35 =>
      opW ((buildSliceC P 43 1).f [(0, t62)] H35) fun t63 H37 =>
      opW (appendWith 40 96 v' t63 H37) fun t64 H39 =>
      opP ((binC P .add 3 true).f (int y) (.int .i64 1)) fun t24 =>
      ∃ k', k' < M - y ∧ ∃ (z : Nat) (vv v' : Value) (zs : List Int) (ee : Int) (la : List Ch), z ≤ M ∧ k' = M - z ∧ [v, nilSl, int 0, ptr pr 0, int m, t64, t24] = [v, nilSl, int 0, ptr pr 0, int m, v', int z] ∧ St H39 ((Γ ++ [(pr, rdr vv ee)]) ++ outB v' (chs la)) ∧ Own 40 v' la.length (chs la) ∧ la.length = z ∧ Inh v bs vv zs ∧ By zs ∧ zs.length ≤ 1000000 ∧ G = (la ++ (rGo (M - z) zs ee).1, (rGo (M - z) zs ee).2) := by
    intro H v2 p8 hO hi2
    refine loadAll_at hO ((X v2 d.2.2.1).length + 0) (at_r rfl) rfl (by omega) ?_
    refine newSl_at hO (bs1 _ _) ?_
    intro q H hO
    refine append_ch (Γ := Γ ++ [(pr, rdr v2 d.2.2.1)]) (St.mid hO) ho (by omega) ?_
    intro H v'' hO ho'
    repeat (first | refine opP_i (by first | exact qa | exact qs | exact nilCheck_ptr | exact offPtr_ptr | exact bin_eql | exact bin_neq | exact bin_lss | exact bin_gtr | exact bin_leq | exact bin_geq | exact un_not | exact pick_true | exact pick_false | exact qy | exact qn | exact qi | exact qj) ?_ | refine opW_i (by first | exact lenSl_sl | exact min_w | exact max_w) ?_ | refine wy ?_ | refine wn ?_ | refine wIf_t rfl ?_ | refine wIf_f rfl ?_ | refine cond_yes rfl ?_ | refine cond_no rfl ?_)
    refine ⟨_, by omega, y + 1, v2, v'', d.2.1, d.2.2.1, la ++ [d.1], by omega, rfl, rfl, hO, ho', by simp [hla], hi2, hrest, by omega, ?_⟩
    rw [hpg, hst]
    simp
  have hO0 : St H2 (X vv ee ++ []) := by rw [List.append_nil]; exact hO
  refine fx (k := 1) (by omega) hzb hzl hO0 hi ?_
  intro H v1 hO i1
  rw [List.append_nil] at hO
  have hb1 := tkR_bytes hzb 1 ee
  have hx1 := tkR_len zs ee 1
  have hlz := tkB_lt hzb ee 1
  refine opW_i (cvUi (by omega)) ?_
  refine opP_i (b41k _) ?_
  rw [zc58]
  refine new_at hO ?_
  intro p8 H hO
  refine storeAll_at hO ((X v1 (tkE zs ee 1)).length + 0) (at_r rfl) rfl rfl rfl ?_
  intro H hO
  replace hO : St H (X v1 (tkE zs ee 1) ++ [(p8, ⟨chC ⟨(numB zs ee 1 : Nat), 0, 0, slz 0, 0⟩, true⟩)]) := hO.set_r
  unfold dec at hd
  refine opP_i offPtr_ptr ?_
  refine load_at hO ((X v1 (tkE zs ee 1)).length + 0) (at_r rfl) (show _ = some (int ((numB zs ee 1 : Nat) : Int)) from rfl) ?_
  by_cases k1 : numB zs ee 1 = 1
  · rw [if_pos k1] at hd
    repeat (first | refine opP_i (by first | exact qa | exact qs | exact nilCheck_ptr | exact offPtr_ptr | exact bin_eql | exact bin_neq | exact bin_lss | exact bin_gtr | exact bin_leq | exact bin_geq | exact un_not | exact pick_true | exact pick_false | exact qy | exact qn | exact qi | exact qj) ?_ | refine opW_i (by first | exact lenSl_sl | exact min_w | exact max_w) ?_ | refine wy ?_ | refine wn ?_ | refine wIf_t rfl ?_ | refine wIf_f rfl ?_ | refine cond_yes rfl ?_ | refine cond_no rfl ?_)
    refine fx (k := 1) (by omega) hb1 (by omega) hO i1 ?_
    intro H v2 hO i2
    have hl2 := tkB_lt hb1 (tkE zs ee 1) 1
    have hb2 := tkR_bytes hb1 1 (tkE zs ee 1)
    have hx2 := tkR_len (tkR zs ee 1) (tkE zs ee 1) 1
    refine opW_i (cvUi (by omega)) ?_
    refine opP_i offPtr_ptr ?_
    refine store1_at hO ((X v2 (tkE (tkR zs ee 1) (tkE zs ee 1) 1)).length + 0) (at_r rfl) rfl (show 0 + 1 < 40 by omega) (show _ = chC ⟨1, numB (tkR zs ee 1) (tkE zs ee 1) 1, 0, slz 0, 0⟩ by rw [k1]; rfl) ?_
    intro H hO
    replace hO : St H (X v2 (tkE (tkR zs ee 1) (tkE zs ee 1) 1) ++ [(p8, ⟨chC ⟨1, numB (tkR zs ee 1) (tkE zs ee 1) 1, 0, slz 0, 0⟩, true⟩)]) := hO.set_r
    refine ref10_Read_spec hO (at_l (at_l (at_r (k := 0) rfl))) (rv i2 _ _ _) (by omega) hb2 ?_
    intro H v3 hO i3
    unfold rdN at hO
    rw [List.set_append_left _ _ (by show Γ.length + 0 < ((Γ ++ [_]) ++ outB v' (chs la)).length; simp), List.set_append_left _ _ (by simp), Go.Ab.set_r] at hO
    have i3 := i2.trans i3
    refine opP_i ext0 ?_
    refine opP_i ext1 ?_
    refine opP_i offPtr_ptr ?_
    refine store_at hO ((X v3 (tkE (tkR (tkR zs ee 1) (tkE zs ee 1) 1) (tkE (tkR zs ee 1) (tkE zs ee 1) 1) 46)).length + 0) (at_r rfl) rfl (show 0 + 3 + 36 ≤ 40 by omega) rfl ?_
    intro H hO
    replace hO := hO.set_r
    refine last _ v3 p8 ?_ (by rw [hd]; exact i3)
    rw [hd]; exact hO
  rw [if_neg k1] at hd
  repeat (first | refine opP_i (by first | exact qa | exact qs | exact nilCheck_ptr | exact offPtr_ptr | exact bin_eql | exact bin_neq | exact bin_lss | exact bin_gtr | exact bin_leq | exact bin_geq | exact un_not | exact pick_true | exact pick_false | exact qy | exact qn | exact qi | exact qj) ?_ | refine opW_i (by first | exact lenSl_sl | exact min_w | exact max_w) ?_ | refine wy ?_ | refine wn ?_ | refine wIf_t rfl ?_ | refine wIf_f rfl ?_ | refine cond_yes rfl ?_ | refine cond_no rfl ?_)
  by_cases k2 : numB zs ee 1 = 2
  · rw [if_pos k2] at hd
    repeat (first | refine opP_i (by first | exact qa | exact qs | exact nilCheck_ptr | exact offPtr_ptr | exact bin_eql | exact bin_neq | exact bin_lss | exact bin_gtr | exact bin_leq | exact bin_geq | exact un_not | exact pick_true | exact pick_false | exact qy | exact qn | exact qi | exact qj) ?_ | refine opW_i (by first | exact lenSl_sl | exact min_w | exact max_w) ?_ | refine wy ?_ | refine wn ?_ | refine wIf_t rfl ?_ | refine wIf_f rfl ?_ | refine cond_yes rfl ?_ | refine cond_no rfl ?_)
    refine fx (k := 1) (by omega) hb1 (by omega) hO i1 ?_
    intro H v2 hO i2
    have hl2 := tkB_lt hb1 (tkE zs ee 1) 1
    refine opW_i (cvUi (by omega)) ?_
    refine opP_i offPtr_ptr ?_
    refine store1_at hO ((X v2 (tkE (tkR zs ee 1) (tkE zs ee 1) 1)).length + 0) (at_r rfl) rfl (show 0 + 2 < 40 by omega) (show _ = chC ⟨2, 0, numB (tkR zs ee 1) (tkE zs ee 1) 1, slz 0, 0⟩ by rw [k2]; rfl) ?_
    intro H hO
    replace hO := hO.set_r
    refine last _ v2 p8 ?_ (by rw [hd]; exact i2)
    rw [hd]; exact hO
  rw [if_neg k2] at hd
  repeat (first | refine opP_i (by first | exact qa | exact qs | exact nilCheck_ptr | exact offPtr_ptr | exact bin_eql | exact bin_neq | exact bin_lss | exact bin_gtr | exact bin_leq | exact bin_geq | exact un_not | exact pick_true | exact pick_false | exact qy | exact qn | exact qi | exact qj) ?_ | refine opW_i (by first | exact lenSl_sl | exact min_w | exact max_w) ?_ | refine wy ?_ | refine wn ?_ | refine wIf_t rfl ?_ | refine wIf_f rfl ?_ | refine cond_yes rfl ?_ | refine cond_no rfl ?_)
  by_cases k3 : numB zs ee 1 = 3
  · rw [if_pos k3] at hd
    repeat (first | refine opP_i (by first | exact qa | exact qs | exact nilCheck_ptr | exact offPtr_ptr | exact bin_eql | exact bin_neq | exact bin_lss | exact bin_gtr | exact bin_leq | exact bin_geq | exact un_not | exact pick_true | exact pick_false | exact qy | exact qn | exact qi | exact qj) ?_ | refine opW_i (by first | exact lenSl_sl | exact min_w | exact max_w) ?_ | refine wy ?_ | refine wn ?_ | refine wIf_t rfl ?_ | refine wIf_f rfl ?_ | refine cond_yes rfl ?_ | refine cond_no rfl ?_)
    refine fx (k := 1) (by omega) hb1 (by omega) hO i1 ?_
    intro H v2 hO i2
    have hl2 := tkB_lt hb1 (tkE zs ee 1) 1
    refine opW_i (cvUi (by omega)) ?_
    repeat (first | refine opP_i (by first | exact qa | exact qs | exact nilCheck_ptr | exact offPtr_ptr | exact bin_eql | exact bin_neq | exact bin_lss | exact bin_gtr | exact bin_leq | exact bin_geq | exact un_not | exact pick_true | exact pick_false | exact qy | exact qn | exact qi | exact qj) ?_ | refine opW_i (by first | exact lenSl_sl | exact min_w | exact max_w) ?_ | refine wy ?_ | refine wn ?_ | refine wIf_t rfl ?_ | refine wIf_f rfl ?_ | refine cond_yes rfl ?_ | refine cond_no rfl ?_)
    refine store1_at hO ((X v2 (tkE (tkR zs ee 1) (tkE zs ee 1) 1)).length + 0) (at_r rfl) rfl (show 0 + 2 < 40 by omega) (show _ = chC ⟨3, 0, (numB (tkR zs ee 1) (tkE zs ee 1) 1 : Int) - 1, slz 0, 0⟩ by rw [k3]; rfl) ?_
    intro H hO
    replace hO := hO.set_r
    refine last _ v2 p8 ?_ (by rw [hd]; exact i2)
    rw [hd]; exact hO
  rw [if_neg k3] at hd
  repeat (first | refine opP_i (by first | exact qa | exact qs | exact nilCheck_ptr | exact offPtr_ptr | exact bin_eql | exact bin_neq | exact bin_lss | exact bin_gtr | exact bin_leq | exact bin_geq | exact un_not | exact pick_true | exact pick_false | exact qy | exact qn | exact qi | exact qj) ?_ | refine opW_i (by first | exact lenSl_sl | exact min_w | exact max_w) ?_ | refine wy ?_ | refine wn ?_ | refine wIf_t rfl ?_ | refine wIf_f rfl ?_ | refine cond_yes rfl ?_ | refine cond_no rfl ?_)
  by_cases k4 : numB zs ee 1 = 4
  · rw [if_pos k4] at hd
    repeat (first | refine opP_i (by first | exact qa | exact qs | exact nilCheck_ptr | exact offPtr_ptr | exact bin_eql | exact bin_neq | exact bin_lss | exact bin_gtr | exact bin_leq | exact bin_geq | exact un_not | exact pick_true | exact pick_false | exact qy | exact qn | exact qi | exact qj) ?_ | refine opW_i (by first | exact lenSl_sl | exact min_w | exact max_w) ?_ | refine wy ?_ | refine wn ?_ | refine wIf_t rfl ?_ | refine wIf_f rfl ?_ | refine cond_yes rfl ?_ | refine cond_no rfl ?_)
    refine fx (k := 8) (by omega) hb1 (by omega) hO i1 ?_
    intro H v2 hO i2
    refine opP_i offPtr_ptr ?_
    refine store1_at hO ((X v2 (tkE (tkR zs ee 1) (tkE zs ee 1) 8)).length + 0) (at_r rfl) rfl (show 0 + 39 < 40 by omega) (show _ = chC ⟨4, 0, 0, slz 0, numB (tkR zs ee 1) (tkE zs ee 1) 8⟩ by rw [k4]; rfl) ?_
    intro H hO
    replace hO := hO.set_r
    refine last _ v2 p8 ?_ (by rw [hd]; exact i2)
    rw [hd]; exact hO
  rw [if_neg k4] at hd
  repeat (first | refine opP_i (by first | exact qa | exact qs | exact nilCheck_ptr | exact offPtr_ptr | exact bin_eql | exact bin_neq | exact bin_lss | exact bin_gtr | exact bin_leq | exact bin_geq | exact un_not | exact pick_true | exact pick_false | exact qy | exact qn | exact qi | exact qj) ?_ | refine opW_i (by first | exact lenSl_sl | exact min_w | exact max_w) ?_ | refine wy ?_ | refine wn ?_ | refine wIf_t rfl ?_ | refine wIf_f rfl ?_ | refine cond_yes rfl ?_ | refine cond_no rfl ?_)
  refine last _ v1 p8 ?_ (by rw [hd]; exact i1)
  rw [hd]; exact hO
end
end T
set_option linter.unusedVariables false
set_option maxRecDepth 100000
namespace T
open Go Go.Ab
variable {H : Heap} {Γ : List (Nat × Blk)} {K : Value → Heap → Prop} {v w x : Value} {xs ys bs : List Int} {j p : Nat} {e : Int}
theorem ArgB.app {Δ : List (Nat × Blk)} (h : ArgB Γ v xs) : ArgB (Γ ++ Δ) v xs := by
  rcases h with h | ⟨p, j, h1, h2⟩
  · exact .inl h
  · exact .inr ⟨p, j, h1, at_l h2⟩
theorem f41 : flatK P 100 41 = some kC := by kernel_rfl
theorem same_spec {v1 v2 : Value} {l : List Ch} (hO : St H Γ) (h1 : RdC Γ v1 l) (h2 : RdC Γ v2 l) (hx : l.length ≤ 1000) (hk : K (.bool true) H) : wCall P n_law11_same [v1, v2] H K := by
  apply law11_same_ok; unfold law11_same
  refine opW_i (by rw [h1.1]) ?_
  refine opW_i (by rw [h2.1]) ?_
  repeat (first | refine opP_i (by first | exact qa | exact qs | exact nilCheck_ptr | exact offPtr_ptr | exact bin_eql | exact bin_neq | exact bin_lss | exact bin_gtr | exact bin_leq | exact bin_geq | exact un_not | exact pick_true | exact pick_false | exact qy | exact qn | exact qi | exact qj) ?_ | refine opW_i (by first | exact lenSl_sl | exact min_w | exact max_w) ?_ | refine wy ?_ | refine wn ?_ | refine wIf_t rfl ?_ | refine wIf_f rfl ?_ | refine cond_yes rfl ?_ | refine cond_no rfl ?_)
  refine opW_i (by rw [h1.1]) ?_
  refine law11_same_L0_ind (fun k l' H' => H' = H ∧ ∃ y : Nat, y ≤ l.length ∧ k = l.length - y ∧ l' = [v1, v2, .bool false, int l.length, int y]) _ _ ?_ l.length _ _ ⟨rfl, 0, by omega, rfl, rfl⟩
  rintro k l' H' ⟨rfl, y, hy, rfl, rfl⟩
  unfold law11_same_L0
  try simp only [nth_zero, nth_succ]
  repeat (first | refine opP_i (by first | exact qa | exact qs | exact nilCheck_ptr | exact offPtr_ptr | exact bin_eql | exact bin_neq | exact bin_lss | exact bin_gtr | exact bin_leq | exact bin_geq | exact un_not | exact pick_true | exact pick_false | exact qy | exact qn | exact qi | exact qj) ?_ | refine opW_i (by first | exact lenSl_sl | exact min_w | exact max_w) ?_ | refine wy ?_ | refine wn ?_ | refine wIf_t rfl ?_ | refine wIf_f rfl ?_ | refine cond_yes rfl ?_ | refine cond_no rfl ?_)
  refine wIf_dec (fun h => ?_) (fun h => ?_)
  · rcases h1.2 with rfl | ⟨p, c, j, rfl, w, hj⟩
    · simp at h; omega
    rcases h2.2 with rfl | ⟨p2, c2, j2, rfl, w2, hj2⟩
    · simp at h; omega
    have hyl : y < l.length := by omega
    have e : 0 + ((y : Nat) : Int).toNat * 40 = y * 40 := by rw [Int.toNat_natCast]; omega
    repeat (first | refine opP_i (by first | exact qa | exact qs | exact nilCheck_ptr | exact offPtr_ptr | exact bin_eql | exact bin_neq | exact bin_lss | exact bin_gtr | exact bin_leq | exact bin_geq | exact un_not | exact pick_true | exact pick_false | exact qy | exact qn | exact qi | exact qj) ?_ | refine opW_i (by first | exact lenSl_sl | exact min_w | exact max_w) ?_ | refine wy ?_ | refine wn ?_ | refine wIf_t rfl ?_ | refine wIf_f rfl ?_ | refine cond_yes rfl ?_ | refine cond_no rfl ?_)
    refine loadAgg_at hO j hj (show _ = chC l[y] from ?_) rfl (by omega) ?_
    · rw [e]; exact chs_at l y hyl
    repeat (first | refine opP_i (by first | exact qa | exact qs | exact nilCheck_ptr | exact offPtr_ptr | exact bin_eql | exact bin_neq | exact bin_lss | exact bin_gtr | exact bin_leq | exact bin_geq | exact un_not | exact pick_true | exact pick_false | exact qy | exact qn | exact qi | exact qj) ?_ | refine opW_i (by first | exact lenSl_sl | exact min_w | exact max_w) ?_ | refine wy ?_ | refine wn ?_ | refine wIf_t rfl ?_ | refine wIf_f rfl ?_ | refine cond_yes rfl ?_ | refine cond_no rfl ?_)
    refine loadAgg_at hO j2 hj2 (show _ = chC l[y] from ?_) rfl (by omega) ?_
    · rw [e]; exact chs_at l y hyl
    refine opP_i (bin_neq_f f41 (by kernel_rfl) (by kernel_rfl) (fitC _) (fitC _)) ?_
    refine wIf_f (by rw [eqCells_self (fitC _)]; rfl) ?_
    repeat (first | refine opP_i (by first | exact qa | exact qs | exact nilCheck_ptr | exact offPtr_ptr | exact bin_eql | exact bin_neq | exact bin_lss | exact bin_gtr | exact bin_leq | exact bin_geq | exact un_not | exact pick_true | exact pick_false | exact qy | exact qn | exact qi | exact qj) ?_ | refine opW_i (by first | exact lenSl_sl | exact min_w | exact max_w) ?_ | refine wy ?_ | refine wn ?_ | refine wIf_t rfl ?_ | refine wIf_f rfl ?_ | refine cond_yes rfl ?_ | refine cond_no rfl ?_)
    exact ⟨_, by omega, rfl, y + 1, by omega, rfl, rfl⟩
  · repeat (first | refine opP_i (by first | exact qa | exact qs | exact nilCheck_ptr | exact offPtr_ptr | exact bin_eql | exact bin_neq | exact bin_lss | exact bin_gtr | exact bin_leq | exact bin_geq | exact un_not | exact pick_true | exact pick_false | exact qy | exact qn | exact qi | exact qj) ?_ | refine opW_i (by first | exact lenSl_sl | exact min_w | exact max_w) ?_ | refine wy ?_ | refine wn ?_ | refine wIf_t rfl ?_ | refine wIf_f rfl ?_ | refine cond_yes rfl ?_ | refine cond_no rfl ?_)
    exact hk
theorem tGet_len (bs : List Int) (hb : By bs) : (tGet bs).1.length ≤ 8 := by
  unfold tGet
  split
  · rename_i h8
    by_cases h1 : 1 ≤ bs.length
    · obtain ⟨a1, a2, a3⟩ := tk_ok h1
      rw [a2, a3]
      cases hp : pGo (numB bs 0 1) (bs.drop 1) 0 with
      | none => simp
      | some r =>
        obtain ⟨_, i2, _, _⟩ := pGo_sound _ _ _ (fun x hx => hb x (List.mem_of_mem_drop hx)) hp
        have : r.1.length = numB bs 0 1 := by rw [← i2]; exact rGo_len _ _ _
        simp only
        split
        · show r.1.length ≤ 8; omega
        · simp
    · obtain ⟨a1, a2, a3⟩ := tk_short (by omega : bs.length < 1)
      have a4 : numB bs 0 1 = 0 := by unfold numB; rw [a1]; rfl
      rw [a4]
      show (if rEnd (tkR bs 0 1) (tkE bs 0 1) = 0 then (([] : List Ch), (0 : Int)) else ([], 111)).1.length ≤ 8
      split <;> simp
  · simp
set_option maxHeartbeats 4000000 in
theorem reads_main (hO : St H Γ) (ha : ArgB Γ v bs) (hb : By bs) : wCall P n_law11_TableReads [v] H fun v _ => v = .bool true := by
  apply law11_TableReads_ok; unfold law11_TableReads
  have hv := ha.rd
  refine law11_tableAlive_spec ?_
  repeat (first | refine opP_i (by first | exact qa | exact qs | exact nilCheck_ptr | exact offPtr_ptr | exact bin_eql | exact bin_neq | exact bin_lss | exact bin_gtr | exact bin_leq | exact bin_geq | exact un_not | exact pick_true | exact pick_false | exact qy | exact qn | exact qi | exact qj) ?_ | refine opW_i (by first | exact lenSl_sl | exact min_w | exact max_w) ?_ | refine wy ?_ | refine wn ?_ | refine wIf_t rfl ?_ | refine wIf_f rfl ?_ | refine cond_yes rfl ?_ | refine cond_no rfl ?_)
  refine opW_i hv.lenSl ?_
  repeat (first | refine opP_i (by first | exact qa | exact qs | exact nilCheck_ptr | exact offPtr_ptr | exact bin_eql | exact bin_neq | exact bin_lss | exact bin_gtr | exact bin_leq | exact bin_geq | exact un_not | exact pick_true | exact pick_false | exact qy | exact qn | exact qi | exact qj) ?_ | refine opW_i (by first | exact lenSl_sl | exact min_w | exact max_w) ?_ | refine wy ?_ | refine wn ?_ | refine wIf_t rfl ?_ | refine wIf_f rfl ?_ | refine cond_yes rfl ?_ | refine cond_no rfl ?_)
  refine wIf_dec (fun h => ?_) (fun h => ?_)
  · rfl
  refine table_Parse_spec hO hv (by omega) hb ?_
  intro H hO
  refine opP_i ext0 ?_
  refine opP_i ext1 ?_
  rw [zc29]
  refine new_at hO ?_
  intro p3 H hO
  refine storeAll_at hO (Γ.length + 0) (at_r rfl) rfl rfl rfl ?_
  intro H hO
  replace hO : St H (Γ ++ [(p3, ⟨tbC (tParse bs).1, true⟩)]) := hO.set_r
  refine ref11_Parse_spec hO ha.app (by omega) hb ?_
  intro H hO
  refine opP_i ext0 ?_
  refine opP_i ext1 ?_
  refine new_at hO ?_
  intro p5 H hO
  rw [List.append_assoc] at hO
  refine storeAll_at hO (Γ.length + 1) (at_r rfl) rfl rfl rfl ?_
  intro H hO
  replace hO : St H (Γ ++ [(p3, ⟨tbC (tParse bs).1, true⟩), (p5, ⟨tbC (tParse bs).1, true⟩)]) := hO.set_r
  refine table_Get_spec hO hv.app (by omega) hb ?_
  intro H v1 hO h1
  refine opP_i ext0 ?_
  refine opP_i ext1 ?_
  refine ref11_Get_spec hO ha.app.app (by omega) hb ?_
  rw [← tGet_eq hb]
  intro H v2 hO h2
  refine opP_i ext0 ?_
  refine opP_i ext1 ?_
  refine loadAll_at hO (Γ.length + 0) (at_l (at_l (at_r rfl))) rfl (by omega) ?_
  refine loadAll_at hO (Γ.length + 1) (at_l (at_l (at_r rfl))) rfl (by omega) ?_
  refine opP_i (eq37_self _ _) ?_
  repeat (first | refine opP_i (by first | exact qa | exact qs | exact nilCheck_ptr | exact offPtr_ptr | exact bin_eql | exact bin_neq | exact bin_lss | exact bin_gtr | exact bin_leq | exact bin_geq | exact un_not | exact pick_true | exact pick_false | exact qy | exact qn | exact qi | exact qj) ?_ | refine opW_i (by first | exact lenSl_sl | exact min_w | exact max_w) ?_ | refine wy ?_ | refine wn ?_ | refine wIf_t rfl ?_ | refine wIf_f rfl ?_ | refine cond_yes rfl ?_ | refine cond_no rfl ?_)
  have hl := tGet_len bs hb
  refine same_spec hO (RdC.own h1).app'.app (RdC.own h2).app' (by omega) ?_
  repeat (first | refine opP_i (by first | exact qa | exact qs | exact nilCheck_ptr | exact offPtr_ptr | exact bin_eql | exact bin_neq | exact bin_lss | exact bin_gtr | exact bin_leq | exact bin_geq | exact un_not | exact pick_true | exact pick_false | exact qy | exact qn | exact qi | exact qj) ?_ | refine opW_i (by first | exact lenSl_sl | exact min_w | exact max_w) ?_ | refine wy ?_ | refine wn ?_ | refine wIf_t rfl ?_ | refine wIf_f rfl ?_ | refine cond_yes rfl ?_ | refine cond_no rfl ?_)
  rw [decide_eq_true rfl]
theorem arg_bytes {ts : List TypeId} {N : Nat} {av : List Value} {b : List (List Value)} (h : ArgS P (46 :: ts) N av b) :
    ∃ v vs b1 b2 xs, av = v :: vs ∧ b = b1 ++ b2 ∧ ArgB (argG N b1) v xs ∧ By xs ∧ ArgS P ts (N + b1.length) vs b2 := by
  obtain ⟨v, vs, b1, b2, e, eb, h1, h2⟩ := arg_one h (by rw [u46]; simp) (by rw [u46]; simp)
  rcases shp_sl u46 h1 with ⟨c', e1, h3⟩ | ⟨len, cells, c', bs, b', e1, eb1, hm, hl, h3, h4⟩
  · cases e1
    exact ⟨_, vs, b1, b2, [], e, eb, .inl ⟨rfl, rfl⟩, fun x hx => (by cases hx), h2⟩
  · cases e1
    obtain ⟨hb, xs, rfl, rfl, hw⟩ := shp_intsL (k := .u8) Go.Proofs.Try.underlying5 _ _ _ _ h3
    subst hb
    subst eb1
    exact ⟨_, vs, _, b2, xs, e, eb, .inr ⟨N, 0, rfl, rfl⟩, fun x hx => wf_u8 (hw x hx), h2⟩
end T
