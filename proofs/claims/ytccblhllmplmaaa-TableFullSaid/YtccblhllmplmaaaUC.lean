/- texts of the proof, one behind the other -/
import Derived.Test.YtccblhllmplmaaaUB
set_option linter.unusedVariables false
set_option maxRecDepth 100000
namespace J
open Go Go.Ab
variable {H : Heap} {Γ : List (Nat × Blk)} {K : Value → Heap → Prop} {v w x : Value} {xs ys : List Int} {j p : Nat} {e : Int}
abbrev agg (l : List Value) : Value := .agg l.toArray
theorem loadAll_at [lp : LpC] {p n : Nat} {cs : List Value} {w : Bool} {K : Value → Heap → Prop} (h : St H Γ) (i : Nat) (hi : Γ[i]? = some (p, ⟨cs, w⟩)) (hn : cs.length = n) (hp : 0 < n) (hk : K (agg cs) H) : opW (loadAgg n (ptr p 0) H) K := by
  refine loadAgg_at h i hi (show _ = cs from ?_) hn hp hk
  rw [List.drop_zero]
  exact List.take_of_length_le (Nat.le_of_eq hn)
theorem storeAll_at [lp : LpC] {p n : Nat} {cs new : List Value} {K : Value → Heap → Prop} (h : St H Γ) (i : Nat) (hi : Γ[i]? = some (p, ⟨cs, true⟩)) (hn : cs.length = n) (hl : new.length = n) (h1 : new.all oneCell = true)
    (hk : ∀ H', St H' (Γ.set i (p, ⟨new, true⟩)) → K undef H') : opW (storeTo n (ptr p 0) (agg new) H) K := by
  refine store_at h i hi hl (by omega) h1 fun H' hO => hk H' ?_
  have e : cs.take 0 ++ (cellsL (agg new) ++ cs.drop (0 + n)) = new := by
    rw [List.drop_of_length_le (by omega)]
    show [] ++ (new ++ []) = new
    simp
  rw [e] at hO; exact hO
theorem ext0 {a b : Value} : extA 0 (.tuple [a, b].toArray) = some a := rfl
theorem ext1 {a b : Value} : extA 1 (.tuple [a, b].toArray) = some b := rfl
theorem St.mid [lp : LpC] {L R : List (Nat × Blk)} (h : St H ((Γ ++ L) ++ R)) : St H (Γ ++ R) := h.sub (List.Sublist.append (List.sublist_append_left Γ L) (List.Sublist.refl R))
noncomputable def crc1 (r : Nat) : Nat := Nat.xor (r / 2) (Nat.land 3988292384 ((4294967296 - Nat.land r 1) % 4294967296))
noncomputable def crcN (i r : Nat) : Nat := Nat.rec (motive := fun _ => Nat) r (fun _ x => crc1 x) i
theorem crc1_lt {r : Nat} (h : r < 4294967296) : crc1 r < 4294967296 :=
  Nat.xor_lt_two_pow (n := 32) (by omega) (Nat.and_lt_two_pow (n := 32) _ (Nat.mod_lt _ (by omega)))
theorem crcN_lt {r : Nat} (h : r < 4294967296) : ∀ i, crcN i r < 4294967296
  | 0 => h
  | i + 1 => crc1_lt (crcN_lt h i)
theorem crc_step_spec {r : Nat} (hr : r < 4294967296) (hk : K (uint .u32 (crcN 8 r)) H) : wCall P n_crc_step [uint .u32 r] H K := by
  apply crc_step_ok; unfold crc_step
  refine crc_step_L0_ind (fun k l' H' => ∃ y : Nat, y ≤ 8 ∧ k = 8 - y ∧ l' = [uint .u32 (crcN y r), .int .u32 0, int y] ∧ H' = H) _ _ ?_ 8 _ _ ⟨0, by omega, rfl, rfl, rfl⟩
  rintro k l' H' ⟨y, hy, rfl, rfl, rfl⟩
  unfold crc_step_L0
  try simp only [nth_zero, nth_succ]
  have hb := crcN_lt hr y
  repeat (first | refine oi ?_ | refine ow ?_ | refine wy ?_ | refine wn ?_ | refine wt ?_ | refine wf' ?_ | refine cy ?_ | refine cn ?_)
  refine wIf_dec (fun h => ?_) (fun h => ?_)
  · have h1 : crcN y r &&& 1 < 4294967296 := Nat.and_lt_two_pow (n := 32) _ (by omega)
    refine opP_i (bin_shrU (n := 1) rfl (by decide)) ?_
    refine opP_i (bin_andU (b := 1) rfl hb (by decide)) ?_
    refine opP_i (un_negU rfl h1) ?_
    refine opP_i (bin_andU (a := 3988292384) rfl (by decide) (Nat.mod_lt _ (by decide))) ?_
    refine opP_i (bin_xorU rfl (show crcN y r / 2 < 4294967296 by omega) (Nat.and_lt_two_pow (n := 32) _ (Nat.mod_lt _ (by decide)))) ?_
    repeat (first | refine oi ?_ | refine ow ?_ | refine wy ?_ | refine wn ?_ | refine wt ?_ | refine wf' ?_ | refine cy ?_ | refine cn ?_)
    exact ⟨_, by omega, y + 1, by omega, rfl, rfl, trivial⟩
  · have e : y = 8 := by omega
    subst e
    repeat (first | refine oi ?_ | refine ow ?_ | refine wy ?_ | refine wn ?_ | refine wt ?_ | refine wf' ?_ | refine cy ?_ | refine cn ?_)
    exact hk
abbrev MadeB (Γ : List (Nat × Blk)) (K : Value → Heap → Prop) (xs : List Int) : Prop := ∀ (H' : Heap) (v' : Value) (cs' : List Value), St H' (Γ ++ outB v' cs') → OwnB v' xs cs' → K v' H'
theorem MadeB.none (h : MadeB Γ K []) (hO : St H Γ) : K nilSl H := h H nilSl [] (by show St H (Γ ++ []); rw [List.append_nil]; exact hO) OwnB.nil
theorem u46 : P.underlying 46 = some (.slice 5) := by kernel_rfl
theorem bs46_0 (H : Heap) : (buildSliceC P 46 0).f [] H = some (sl H.next 0 0 3, H.push []) := by kernel_rfl
theorem bs46_1 (k : IntKind) (n : Int) (H : Heap) : (buildSliceC P 46 1).f [(0, .int k n)] H = some (sl H.next 0 1 3, H.push [.int k n]) := by kernel_rfl
theorem bs46_2 (k k' : IntKind) (m n : Int) (H : Heap) : (buildSliceC P 46 2).f [(0, .int k m), (1, .int k' n)] H = some (sl H.next 0 2 3, H.push [.int k m, .int k' n]) := by kernel_rfl
theorem bs65_1 (a : Option Addr) (n c : Nat) (H : Heap) : (buildSliceC P 65 1).f [(0, .slice a n c)] H = some (sl H.next 0 1 3, H.push [.slice a n c]) := by kernel_rfl
theorem bs65_2 (a a' : Option Addr) (n n' c c' : Nat) (H : Heap) : (buildSliceC P 65 2).f [(0, .slice a n c), (1, .slice a' n' c')] H = some (sl H.next 0 2 3, H.push [.slice a n c, .slice a' n' c']) := by kernel_rfl
theorem Clone_spec (hO : St H Γ) (hv : RdB Γ v xs) (hl : xs.length ≤ 100000000) (hk : MadeB Γ K xs) : wCall P n_slices_Clone_byte_byte [v] H K := by
  apply slices_Clone_byte_byte_ok; unfold slices_Clone_byte_byte
  have hv' := hv
  rcases hv with ⟨rfl, rfl⟩ | ⟨p, o, c, rfl, _⟩
  · refine opP_i (eql_nil u46) ?_
    refine wIf_t rfl ?_
    exact hk.none hO
  · refine opP_i (eql_nil u46) ?_
    refine wIf_f rfl ?_
    refine newSl_at hO (bs46_0 _) ?_
    intro q H hO
    exact append_by (v := sl q 0 0 3) (cs := []) (xs := []) hO (.inr ⟨q, .inr ⟨rfl, rfl⟩, rfl, Nat.le_refl _, rfl⟩) hv' (by simp; omega) hk
theorem within_spec {n : Nat} (hn : n ≤ 8) (hk : K (int n) H) : wCall P n_code_within [int n] H K := by
  apply code_within_ok; unfold code_within
  repeat (first | refine oi ?_ | refine ow ?_ | refine wy ?_ | refine wn ?_ | refine wt ?_ | refine wf' ?_ | refine cy ?_ | refine cn ?_)
  rw [show max (0 : Int) (min (n : Int) 8) = n by omega]
  exact hk
theorem cap46 (H : Heap) : (builtinC P .cap [46]).f [nilSl] H = some (int 0, H) := by kernel_rfl
theorem app46_0 (x : Value) (H : Heap) : (builtinC P .append [46, 3]).f [nilSl, x] H = appendZeros 1 1 [.int .u8 0] nilSl x H := by kernel_rfl
theorem app46 {m : Nat} (h0 : 0 < m) (h1 : m ≤ 1000000000) (H : Heap) : (builtinC P .append [46, 3]).f [nilSl, int m] H = some (sl H.next 0 m 2, H.push (repl m [.int .u8 0])) := by
  rw [app46_0]
  unfold appendZeros
  simp only
  rw [leB_eq, decide_eq_true (show (0 : Int) ≤ m by omega)]
  simp only [Nat.beq_refl, Bool.and_self, Int.toNat_natCast]
  have hb : Nat.beq m 0 = false := by
    cases hb : Nat.beq m 0 with
    | false => rfl
    | true => have := Nat.eq_of_beq_eq_true hb; omega
  rw [hb, room_of (by omega) (by omega)]
  rfl
theorem Grow_spec {n : Nat} (hO : St H Γ) (hn : n ≤ 1000000000) (hk : MadeB Γ K []) : wCall P n_slices_Grow_byte_byte [nilSl, int n] H K := by
  apply slices_Grow_byte_byte_ok; unfold slices_Grow_byte_byte
  refine join_with (fun l' H' => l' = [nilSl, int n] ∧ St H' Γ) ?_ ?_
  · repeat (first | refine oi ?_ | refine ow ?_ | refine wy ?_ | refine wn ?_ | refine wt ?_ | refine wf' ?_ | refine cy ?_ | refine cn ?_)
    exact ⟨rfl, hO⟩
  clear hO
  rintro l' H ⟨rfl, hO⟩
  try simp only [nth_zero, nth_succ]
  refine opW_i (cap46 _) ?_
  repeat (first | refine oi ?_ | refine ow ?_ | refine wy ?_ | refine wn ?_ | refine wt ?_ | refine wf' ?_ | refine cy ?_ | refine cn ?_)
  refine wIf_dec (fun h => ?_) (fun h => ?_)
  · refine opW_i (cap46 _) ?_
    refine opP_i (show sliceSl 1 nilSl none (some (int 0)) none = some nilSl from rfl) ?_
    rw [show (n : Int) - (0 - ((0 : Nat) : Int)) = n by omega] at h ⊢
    refine newSl_at hO (app46 (by omega) hn _) ?_
    intro p H hO
    repeat (first | refine oi ?_ | refine ow ?_ | refine wy ?_ | refine wn ?_ | refine wt ?_ | refine wf' ?_ | refine cy ?_ | refine cn ?_)
    refine opP_i (show sliceSl 1 (sl p 0 n 2) none (some (int ((0 : Nat) : Int))) none = some (sl p 0 0 2) from rfl) ?_
    exact hk _ _ _ hO (.inr ⟨p, .inl rfl, rfl, Nat.zero_le _, by rw [repl1_eq]; simp [simpleB, simple0]⟩)
  · exact hk.none hO
def RdL (Γ : List (Nat × Blk)) (v : Value) (vs : List Value) : Prop := ∃ (p c j : Nat) (w : Bool), v = sl p 0 vs.length c ∧ Γ[j]? = some (p, (⟨vs, w⟩ : Blk))
theorem take_flat {xss : List (List Int)} {y : Nat} (h : y < xss.length) : (xss.take (y + 1)).flatten = (xss.take y).flatten ++ xss[y] := by
  rw [List.take_succ_eq_append_getElem h, List.flatten_append]; simp
theorem flat_le {xss : List (List Int)} (y : Nat) : (xss.take y).flatten.length ≤ xss.flatten.length := by
  conv => rhs; rw [← List.take_append_drop y xss]
  rw [List.flatten_append, List.length_append]; omega
theorem Concat_spec {vs : List Value} {xss : List (List Int)} (hO : St H Γ) (hv : RdL Γ v vs) (hlen : xss.length = vs.length) (hall : ∀ i (h : i < vs.length) (h' : i < xss.length), RdB Γ vs[i] xss[i]) (hl : xss.flatten.length ≤ 100000000) (hm : vs.length ≤ 1000000) (hk : MadeB Γ K xss.flatten) : wCall P n_slices_Concat_byte_byte [v] H K := by
  apply slices_Concat_byte_byte_ok; unfold slices_Concat_byte_byte
  obtain ⟨p, c, j, w, rfl, hj⟩ := hv
  repeat (first | refine oi ?_ | refine ow ?_ | refine wy ?_ | refine wn ?_ | refine wt ?_ | refine wf' ?_ | refine cy ?_ | refine cn ?_)
  refine slices_Concat_byte_byte_L0_ind (fun k l' H' => ∃ y : Nat, y ≤ vs.length ∧ k = vs.length - y ∧ l' = [sl p 0 vs.length c, nilSl, int ((xss.take y).flatten.length : Nat), sl p 0 vs.length c, int vs.length, int y] ∧ St H' Γ) _ _ ?_ vs.length _ _ ⟨0, by omega, by omega, rfl, hO⟩
  clear hO
  rintro k l' H' ⟨y, hy, rfl, rfl, hO⟩
  unfold slices_Concat_byte_byte_L0
  try simp only [nth_zero, nth_succ]
  have hle := flat_le (xss := xss) y
  repeat (first | refine oi ?_ | refine ow ?_ | refine wy ?_ | refine wn ?_ | refine wt ?_ | refine wf' ?_ | refine cy ?_ | refine cn ?_)
  refine wIf_dec (fun h => ?_) (fun h => ?_)
  · have hyl : y < vs.length := by omega
    have hyx : y < xss.length := by omega
    have hr := hall y hyl hyx
    have hs := take_flat hyx
    have hle2 := flat_le (xss := xss) (y + 1)
    rw [hs, List.length_append] at hle2
    repeat (first | refine oi ?_ | refine ow ?_ | refine wy ?_ | refine wn ?_ | refine wt ?_ | refine wf' ?_ | refine cy ?_ | refine cn ?_)
    refine load_at hO j hj (v := vs[y]) (by simp [hyl]) ?_
    refine opW_i hr.lenSl ?_
    repeat (first | refine oi ?_ | refine ow ?_ | refine wy ?_ | refine wn ?_ | refine wt ?_ | refine wf' ?_ | refine cy ?_ | refine cn ?_)
    refine ⟨_, by omega, y + 1, by omega, rfl, ?_, hO⟩
    rw [hs, List.length_append]; simp
  · have e : y = vs.length := by omega
    subst e
    rw [List.take_of_length_le (by omega)]
    repeat (first | refine oi ?_ | refine ow ?_ | refine wy ?_ | refine wn ?_ | refine wt ?_ | refine wf' ?_ | refine cy ?_ | refine cn ?_)
    refine Grow_spec hO (by omega) ?_
    intro H v' cs' hO' hv'
    repeat (first | refine oi ?_ | refine ow ?_ | refine wy ?_ | refine wn ?_ | refine wt ?_ | refine wf' ?_ | refine cy ?_ | refine cn ?_)
    refine slices_Concat_byte_byte_L1_ind (fun k l' H' => ∃ (y : Nat) (v' : Value) (cs' : List Value), y ≤ vs.length ∧ k = vs.length - y ∧ l' = [nilSl, v', sl p 0 vs.length c, int vs.length, int y] ∧ St H' (Γ ++ outB v' cs') ∧ OwnB v' (xss.take y).flatten cs') _ _ ?_ vs.length _ _ ⟨0, v', cs', by omega, by omega, rfl, hO', hv'⟩
    clear hO' hv' hO
    rintro k l' H' ⟨y, v', cs', hy, rfl, rfl, hO, hv⟩
    unfold slices_Concat_byte_byte_L1
    try simp only [nth_zero, nth_succ]
    repeat (first | refine oi ?_ | refine ow ?_ | refine wy ?_ | refine wn ?_ | refine wt ?_ | refine wf' ?_ | refine cy ?_ | refine cn ?_)
    refine wIf_dec (fun h => ?_) (fun h => ?_)
    · have hyl : y < vs.length := by omega
      have hyx : y < xss.length := by omega
      have hr := hall y hyl hyx
      have hs := take_flat hyx
      have hle2 := flat_le (xss := xss) (y + 1)
      rw [hs, List.length_append] at hle2
      repeat (first | refine oi ?_ | refine ow ?_ | refine wy ?_ | refine wn ?_ | refine wt ?_ | refine wf' ?_ | refine cy ?_ | refine cn ?_)
      refine load_at hO j (at_l hj) (v := vs[y]) (by simp [hyl]) ?_
      refine append_by hO hv hr (by omega) ?_
      intro H v'' cs'' hO hv
      repeat (first | refine oi ?_ | refine ow ?_ | refine wy ?_ | refine wn ?_ | refine wt ?_ | refine wf' ?_ | refine cy ?_ | refine cn ?_)
      refine ⟨_, by omega, y + 1, v'', cs'', by omega, rfl, rfl, hO, ?_⟩
      rw [hs]; exact hv
    · have e : y = vs.length := by omega
      subst e
      rw [List.take_of_length_le (by omega)] at hv
      repeat (first | refine oi ?_ | refine ow ?_ | refine wy ?_ | refine wn ?_ | refine wt ?_ | refine wf' ?_ | refine cy ?_ | refine cn ?_)
      exact hk _ _ _ hO hv
theorem Raw_spec (hO : St H Γ) (hv : RdB Γ v xs) (hw : RdL Γ w [x]) (hx : RdB Γ x ys) (hl : xs.length + ys.length ≤ 10000000) (hk : MadeB Γ K (xs ++ ys)) : wCall P n_code_Raw [v, w] H K := by
  apply code_Raw_ok; unfold code_Raw
  refine Concat_spec (xss := [ys]) hO hw rfl (fun i h h' => by
    have : i = 0 := by simp at h; omega
    subst this; exact hx) (by simp; omega) (by simp) ?_
  intro H v1 c1 hO h1
  have h1 : OwnB v1 ys c1 := by simpa using h1
  obtain ⟨a, n, c, e1⟩ := hv.shape
  obtain ⟨a', n', c', e2⟩ := h1.rd.shape
  refine newSl_at hO (show (buildSliceC P 65 2).f [(0, v), (1, v1)] H = some (sl H.next 0 2 3, H.push [v, v1]) by rw [e1, e2]; exact bs65_2 _ _ _ _ _ _ _) ?_
  intro q H hO
  refine Concat_spec (xss := [xs, ys]) (vs := [v, v1]) hO ⟨q, 3, (Γ ++ outB v1 c1).length, true, rfl, by simp⟩ rfl (fun i h h' => ?_) (by simp; omega) (by simp) ?_
  · match i, h with
    | 0, _ => exact hv.app.app
    | 1, _ => exact h1.rd.app'.app
  · intro H' v' cs' hO' hv'
    have hv' : OwnB v' (xs ++ ys) cs' := by simpa using hv'
    exact hk _ _ _ (St.mid (St.mid (L := [(q, ⟨[v, v1], true⟩)]) hO')) hv'
def leN (y n : Nat) : List Int := (List.range y).map fun i => ((n / 256 ^ i % 256 : Nat) : Int)
theorem leN_len (y n : Nat) : (leN y n).length = y := by simp [leN]
theorem leN_succ (y n : Nat) : leN (y + 1) n = leN y n ++ [((n / 256 ^ y % 256 : Nat) : Int)] := by simp [leN, List.range_succ]
theorem div_pow (n y : Nat) : n / 256 ^ y / 2 ^ 8 = n / 256 ^ (y + 1) := by show n / 256 ^ y / 256 = _; rw [Nat.div_div_eq_div_mul, ← Nat.pow_succ]
theorem Fixed_spec {n size : Nat} (hO : St H Γ) (hv : RdB Γ v xs) (hl : xs.length ≤ 10000000) (hn : n < 2 ^ 64) (hs : size ≤ 8) (hk : MadeB Γ K (xs ++ leN size n)) : wCall P n_code_Fixed [v, uint .u64 n, int size] H K := by
  apply code_Fixed_ok; unfold code_Fixed
  refine Clone_spec hO hv (by omega) ?_
  intro H v' cs' hO hv'
  refine within_spec hs ?_
  refine code_Fixed_L0_ind (fun k l' H' => ∃ (y : Nat) (v' : Value) (cs' : List Value), y ≤ size ∧ k = size - y ∧ l' = [uint .u64 (n / 256 ^ y), nilSl, v', int size, int y] ∧ St H' (Γ ++ outB v' cs') ∧ OwnB v' (xs ++ leN y n) cs') _ _ ?_ size _ _ ⟨0, v', cs', by omega, by omega, by simp, hO, by simpa [leN] using hv'⟩
  clear hO hv'
  rintro k l' H' ⟨y, v', cs', hy, rfl, rfl, hO, hv'⟩
  unfold code_Fixed_L0
  try simp only [nth_zero, nth_succ]
  repeat (first | refine oi ?_ | refine ow ?_ | refine wy ?_ | refine wn ?_ | refine wt ?_ | refine wf' ?_ | refine cy ?_ | refine cn ?_)
  refine wIf_dec (fun h => ?_) (fun h => ?_)
  · have hyl : y < size := by omega
    refine opW_i (cvU rfl) ?_
    refine newSl_at hO (bs46_1 _ _ _) ?_
    intro q H hO
    refine append_new (ys := [((n / 256 ^ y % 256 : Nat) : Int)]) hO hv' (by have := leN_len y n; simp [this]; omega) rfl (.inr rfl) ?_
    intro H v'' cs'' hO hv''
    refine opP_i (bin_shrU (n := 8) rfl (by decide)) ?_
    repeat (first | refine oi ?_ | refine ow ?_ | refine wy ?_ | refine wn ?_ | refine wt ?_ | refine wf' ?_ | refine cy ?_ | refine cn ?_)
    refine ⟨_, by omega, y + 1, v'', cs'', by omega, rfl, ?_, hO, ?_⟩
    · rw [div_pow]; rfl
    · rw [leN_succ, ← List.append_assoc]; exact hv''
  · have e : y = size := by omega
    subst e
    repeat (first | refine oi ?_ | refine ow ?_ | refine wy ?_ | refine wn ?_ | refine wt ?_ | refine wf' ?_ | refine cy ?_ | refine cn ?_)
    exact hk _ _ _ hO hv'
def tkB (xs : List Int) (e : Int) (n : Nat) : List Int := if e = 0 ∧ n ≤ xs.length then xs.take n else []
def tkR (xs : List Int) (e : Int) (n : Nat) : List Int := if e = 0 ∧ n ≤ xs.length then xs.drop n else []
def tkE (xs : List Int) (e : Int) (n : Nat) : Int := if e = 0 ∧ n ≤ xs.length then 0 else if e = 0 then 51 else e
abbrev rdr (v : Value) (e : Int) : Blk := ⟨[v, int e], true⟩
theorem set_at {x' y : Nat × Blk} (h : Γ[j]? = some x') : (Γ.set j y)[j]? = some y := List.getElem?_set_self (List.getElem?_eq_some_iff.1 h).1
theorem rd_set {b' : Blk} {s : Value} {p' : Nat} (h : RdB Γ v xs) (hj : Γ[j]? = some (p, rdr s e)) (hs : ∃ a n c, s = .slice a n c) : RdB (Γ.set j (p', b')) v xs := by
  rcases h with h | ⟨p2, o, c, h1, h2, h3 | ⟨j', b, h3, h4⟩⟩
  · exact .inl h
  · exact .inr ⟨p2, o, c, h1, h2, .inl h3⟩
  · by_cases hjj : j' = j
    · subst hjj
      rw [hj] at h3
      cases h3
      obtain ⟨a, n, c', rfl⟩ := hs
      refine .inr ⟨_, o, c, h1, h2, .inl ?_⟩
      match xs, o, h4 with
      | [], _, _ => rfl
      | y :: r, 0, h4 => simp at h4
      | y :: r, 1, h4 => simp at h4
      | y :: r, o + 2, h4 => simp at h4
    · exact .inr ⟨p2, o, c, h1, h2, .inr ⟨j', b, by rw [List.getElem?_set_ne (fun h => hjj h.symm)]; exact h3, h4⟩⟩
theorem b132 (a : Option Addr) (n c : Nat) : (buildC P 132).f [(0, .slice a n c)] = some (agg [.slice a n c, int 0]) := by kernel_rfl
theorem New_spec (hO : St H Γ) (hv : RdB Γ v xs) (hk : ∀ H' p, St H' (Γ ++ [(p, rdr v 0)]) → K (ptr p 0) H') : wCall P n_code_New [v] H K := by
  apply code_New_ok; unfold code_New
  obtain ⟨a, n, c, rfl⟩ := RdB.shape hv
  refine opP_i (b132 _ _ _) ?_
  refine new_at hO ?_
  intro p H hO
  exact hk _ _ hO
theorem fail_spec {x : Int} (hO : St H Γ) (hj : Γ[j]? = some (p, rdr v e)) (hk : ∀ H', St H' (Γ.set j (p, rdr nilSl (if e = 0 then x else e))) → K (.tuple [].toArray) H') : wCall P n_code_Reader_fail [ptr p 0, int x] H K := by
  apply code_Reader_fail_ok; unfold code_Reader_fail
  refine opP_i nilCheck_ptr ?_
  refine opP_i offPtr_ptr ?_
  refine load_at hO j hj rfl ?_
  refine opP_i bin_eql ?_
  refine wIf_dec (fun h => ?_) (fun h => ?_)
  · rw [if_pos h] at hk
    refine opP_i nilCheck_ptr ?_
    refine opP_i offPtr_ptr ?_
    refine store1_at hO j hj rfl (show 1 < 2 by omega) (show _ = [v, int x] from rfl) ?_
    intro H hO
    refine opP_i nilCheck_ptr ?_
    refine opP_i offPtr_ptr ?_
    refine store1_at hO j (set_at hj) rfl (show 0 < 2 by omega) (show _ = [nilSl, int x] from rfl) ?_
    intro H hO
    rw [List.set_set] at hO
    exact hk _ hO
  · rw [if_neg h] at hk
    refine opP_i nilCheck_ptr ?_
    refine opP_i offPtr_ptr ?_
    refine store1_at hO j hj rfl (show 0 < 2 by omega) (show _ = [nilSl, int e] from rfl) ?_
    intro H hO
    exact hk _ hO
abbrev Inh (v : Value) (xs : List Int) (v' : Value) (ys : List Int) : Prop := ∀ Γ' : List (Nat × Blk), RdB Γ' v xs → RdB Γ' v' ys
theorem Inh.none {v : Value} {xs : List Int} : Inh v xs nilSl [] := fun _ _ => .nil
theorem slice_hi (h : RdB Γ v xs) {n : Nat} (hn : n ≤ xs.length) : ∃ v', sliceSl 1 v none (some (int n)) none = some v' ∧ Inh v xs v' (xs.take n) := by
  rcases h with ⟨rfl, rfl⟩ | ⟨p, o, c, rfl, hc, _⟩
  · have : n = 0 := by simpa using hn
    subst this
    exact ⟨nilSl, rfl, .none⟩
  · obtain ⟨c', hc', he⟩ := slice_to (o := o) (p := p) (n := xs.length) (h := (n : Int)) (by omega) (by omega) hc
    rw [Int.toNat_natCast] at he
    refine ⟨_, he, fun Γ' h => ?_⟩
    rcases h with ⟨h, _⟩ | ⟨p', o', c'', heq, _, h⟩
    · cases h
    cases heq
    refine .inr ⟨p, o, c', by rw [List.length_take, Nat.min_eq_left hn], hc', ?_⟩
    rcases h with rfl | ⟨j, b, h1, h2⟩
    · exact .inl (by simp)
    · refine .inr ⟨j, b, h1, ?_⟩
      rw [List.length_take, Nat.min_eq_left hn]
      have := congrArg (List.take n) h2
      rw [List.take_take, Nat.min_eq_left hn] at this
      rw [this, by8, by8, List.map_take]
theorem slice_lo (h : RdB Γ v xs) {n : Nat} (hn : n ≤ xs.length) : ∃ v', sliceSl 1 v (some (int n)) none none = some v' ∧ Inh v xs v' (xs.drop n) := by
  rcases h with ⟨rfl, rfl⟩ | ⟨p, o, c, rfl, hc, _⟩
  · have : n = 0 := by simpa using hn
    subst this
    exact ⟨nilSl, rfl, .none⟩
  · have hb : boundLo xs.length (some (int (n : Int))) = some n := by
      show (match leB 0 (n : Int) with | true => (match Nat.ble (n : Int).toNat xs.length with | true => some (n : Int).toNat | false => none) | false => none) = _
      rw [leB_eq, decide_eq_true (by omega)]
      simp only [Int.toNat_natCast]
      rw [Nat.ble_eq_true_of_le (by omega)]
    have he : ∃ c', (c' = 2 ∨ c' = 3) ∧ sliceSl 1 (sl p o xs.length c) (some (int n)) none none = some (sl p (o + n) (xs.length - n) c') := by
      rcases hc with rfl | rfl
      · refine ⟨2, .inl rfl, ?_⟩
        unfold sliceSl
        simp only [boundHi, hb]
        simp [maxOk, reslice]
      · refine ⟨3, .inr rfl, ?_⟩
        unfold sliceSl
        simp only [boundHi, hb]
        simp [maxOk, reslice]
    obtain ⟨c', hc', he⟩ := he
    refine ⟨_, he, fun Γ' h => ?_⟩
    rcases h with ⟨h, _⟩ | ⟨p', o', c'', heq, _, h⟩
    · cases h
    cases heq
    refine .inr ⟨p, o + n, c', by rw [List.length_drop], hc', ?_⟩
    rcases h with rfl | ⟨j, b, h1, h2⟩
    · exact .inl (by simp)
    · refine .inr ⟨j, b, h1, ?_⟩
      have := congrArg (List.drop n) h2
      rw [List.drop_take, List.drop_drop] at this
      rw [List.length_drop, this, by8, by8, List.map_drop]
theorem take_spec {n : Nat} (hO : St H Γ) (hj : Γ[j]? = some (p, rdr v e)) (hv : RdB Γ v xs) (hn : n ≤ 1000000)
    (hk : ∀ H' v1 v2, St H' (Γ.set j (p, rdr v2 (tkE xs e n))) → Inh v xs v1 (tkB xs e n) → Inh v xs v2 (tkR xs e n) → K v1 H') : wCall P n_code_Reader_take [ptr p 0, int n] H K := by
  apply code_Reader_take_ok; unfold code_Reader_take
  repeat (first | refine oi ?_ | refine ow ?_ | refine wy ?_ | refine wn ?_ | refine wt ?_ | refine wf' ?_ | refine cy ?_ | refine cn ?_)
  rw [show max (n : Int) 0 = n by omega]
  refine join_with (fun l' H' => l' = [ptr p 0, int n, .bool (decide (¬ (e = 0 ∧ n ≤ xs.length)))] ∧ St H' Γ) ?_ ?_
  · refine opP_i nilCheck_ptr ?_
    refine opP_i offPtr_ptr ?_
    refine load_at hO j hj rfl ?_
    refine opP_i bin_neq ?_
    refine wIf_dec (fun h => ?_) (fun h => ?_)
    · repeat (first | refine oi ?_ | refine ow ?_ | refine wy ?_ | refine wn ?_ | refine wt ?_ | refine wf' ?_ | refine cy ?_ | refine cn ?_)
      exact ⟨by rw [decide_eq_true (show ¬ (e = 0 ∧ n ≤ xs.length) from fun h' => h h'.1)], hO⟩
    · refine opP_i nilCheck_ptr ?_
      refine opP_i offPtr_ptr ?_
      refine load_at hO j hj rfl ?_
      refine opW_i hv.lenSl ?_
      repeat (first | refine oi ?_ | refine ow ?_ | refine wy ?_ | refine wn ?_ | refine wt ?_ | refine wf' ?_ | refine cy ?_ | refine cn ?_)
      refine ⟨?_, hO⟩
      rw [decide_eq_decide.2 (show (xs.length : Int) < n ↔ ¬ (e = 0 ∧ n ≤ xs.length) by omega)]
  clear hO
  rintro l' H ⟨rfl, hO⟩
  try simp only [nth_zero, nth_succ]
  refine wIf_dec (fun h => ?_) (fun h => ?_)
  · unfold tkB tkR tkE at hk
    rw [if_neg h, if_neg h, if_neg h] at hk
    refine fail_spec hO hj ?_
    intro H hO
    exact hk _ nilSl nilSl hO .none .none
  · have h := Decidable.not_not.1 h
    unfold tkB tkR tkE at hk
    rw [if_pos h, if_pos h, if_pos h] at hk
    obtain ⟨v1, e1, r1⟩ := slice_hi hv h.2
    obtain ⟨v2, e2, r2⟩ := slice_lo hv h.2
    refine opP_i nilCheck_ptr ?_
    refine opP_i offPtr_ptr ?_
    refine load_at hO j hj rfl ?_
    refine opP_i e1 ?_
    refine opP_i nilCheck_ptr ?_
    refine opP_i offPtr_ptr ?_
    refine load_at hO j hj rfl ?_
    refine opP_i e2 ?_
    refine opP_i nilCheck_ptr ?_
    refine opP_i offPtr_ptr ?_
    obtain ⟨a2, n2, c2, rfl⟩ := RdB.shape (r2 _ hv)
    refine store1_at hO j hj rfl (show 0 < 2 by omega) (show _ = [.slice a2 n2 c2, int e] from rfl) ?_
    intro H hO
    rw [h.1] at hO
    exact hk _ v1 _ hO r1 r2
theorem wT_mono {t : Task} {K K' : Value → Heap → Prop} (h : wT P t K) (hk : ∀ v H, K v H → K' v H) : wT P t K' := by
  obtain ⟨n, ex, v, H', h1, h2⟩ := h
  exact ⟨n, ex, v, H', h1, hk _ _ h2⟩
theorem Backward1_spec [L : LpC] {l q jq : Nat} {G : Nat → List (Nat × Blk)} (hq : ∀ k, (G k)[jq]? = some (q, ⟨[v], true⟩)) (hv : ∀ k, RdB (G k) v xs) (hx : xs.length ≤ 1000000)
    (hr : ∀ k (h : k < xs.length) H, St H (G (k + 1)) → wT P (.round l [int k, .int .u8 xs[k]] H) fun b H' => b = .bool true ∧ St H' (G k)) (hO : St H (G xs.length)) (hk : ∀ H', St H' (G 0) → K (.tuple [].toArray) H') : wCall P n_slices_Backward_byte_byte_1 [yieldV l, ptr q 0] H K := by
  apply slices_Backward_byte_byte_1_ok; unfold slices_Backward_byte_byte_1
  refine load_at hO jq (hq _) rfl ?_
  refine opW_i (hv xs.length).lenSl ?_
  repeat (first | refine oi ?_ | refine ow ?_ | refine wy ?_ | refine wn ?_ | refine wt ?_ | refine wf' ?_ | refine cy ?_ | refine cn ?_)
  refine slices_Backward_byte_byte_1_L0_ind (fun k l' H' => ∃ y : Nat, y ≤ xs.length ∧ k = y ∧ l' = [yieldV l, ptr q 0, int ((y : Int) - 1)] ∧ St H' (G y)) _ _ ?_ xs.length _ _ ⟨xs.length, by omega, rfl, rfl, hO⟩
  clear hO
  rintro k l' H' ⟨y, hy, rfl, rfl, hO⟩
  unfold slices_Backward_byte_byte_1_L0
  try simp only [nth_zero, nth_succ]
  repeat (first | refine oi ?_ | refine ow ?_ | refine wy ?_ | refine wn ?_ | refine wt ?_ | refine wf' ?_ | refine cy ?_ | refine cn ?_)
  refine wIf_dec (fun h => ?_) (fun h => ?_)
  · obtain ⟨z, rfl⟩ : ∃ z : Nat, k = z + 1 := ⟨k - 1, by omega⟩
    have hz : z < xs.length := by omega
    have ez : ((z + 1 : Nat) : Int) - 1 = z := by omega
    rw [ez] at *
    refine load_at hO jq (hq _) rfl ?_
    obtain ⟨p2, o, c, j2, b, rfl, h1, h2⟩ := (hv (z + 1)).at hz
    repeat (first | refine oi ?_ | refine ow ?_ | refine wy ?_ | refine wn ?_ | refine wt ?_ | refine wf' ?_ | refine cy ?_ | refine cn ?_)
    refine load_at hO j2 h1 (v := .int .u8 xs[z]) (by simpa using h2) ?_
    refine yield_at (wT_mono (hr z hz _ hO) ?_)
    rintro b2 H2 ⟨rfl, hO2⟩
    repeat (first | refine oi ?_ | refine ow ?_ | refine wy ?_ | refine wn ?_ | refine wt ?_ | refine wf' ?_ | refine cy ?_ | refine cn ?_)
    exact ⟨_, by omega, z, by omega, rfl, rfl, hO2⟩
  · have : k = 0 := by omega
    subst this
    repeat (first | refine oi ?_ | refine ow ?_ | refine wy ?_ | refine wn ?_ | refine wt ?_ | refine wf' ?_ | refine cy ?_ | refine cn ?_)
    exact hk _ hO
def leV : List Int → Nat
  | [] => 0
  | x :: r => x.toNat + 256 * leV r
theorem leV_lt : ∀ (xs : List Int), (∀ x ∈ xs, 0 ≤ x ∧ x ≤ 255) → leV xs < 256 ^ xs.length
  | [], _ => by simp [leV]
  | x :: r, h => by
    have h1 := leV_lt r fun y hy => h y (List.mem_cons_of_mem _ hy)
    have h2 := h x List.mem_cons_self
    simp only [leV, List.length_cons, Nat.pow_succ]
    omega
theorem leV_drop {k : Nat} (h : k < xs.length) : leV (xs.drop k) = xs[k].toNat + 256 * leV (xs.drop (k + 1)) := by
  rw [List.drop_eq_getElem_cons h]; rfl
theorem or_low {a b : Nat} (hb : b < 256) : (a * 2 ^ 8) ||| b = b + 256 * a := by
  rw [Nat.mul_comm, ← Nat.two_pow_add_eq_or_of_lt (i := 8) hb]; omega
theorem RdB.bytes (hb : ∀ x ∈ xs, 0 ≤ x ∧ x ≤ 255) (n : Nat) (e : Int) : ∀ x ∈ tkB xs e n, 0 ≤ x ∧ x ≤ 255 := by
  unfold tkB
  split
  · exact fun x hx => hb x (List.mem_of_mem_take hx)
  · simp
theorem tkB_len (xs : List Int) (e : Int) (n : Nat) : (tkB xs e n).length ≤ n := by
  unfold tkB
  split
  · rw [List.length_take]; omega
  · simp
theorem fixed_body [L : LpC] {q5 m : Nat} {b : Int} {y : Nat × Blk} {X : Heap → Prop} (hO : St H (Γ ++ [(q5, ⟨[uint .u64 m], true⟩), y])) (hm : m < 256 ^ 7) (hb : 0 ≤ b ∧ b ≤ 255) (hk : ∀ H', St H' (Γ ++ [(q5, ⟨[uint .u64 (b.toNat + 256 * m)], true⟩), y]) → X H') :
    opW (loadOne (ptr q5 0) H) fun t15 H2 => opP ((binC P .shl 30 true).f t15 (.int .u64 8)) fun t16 => opW (cvInt .u64 (.int .u8 b) H2) fun t18 H5 => opP ((binC P .or 30 false).f t16 t18) fun t19 => opW (storeTo 1 (ptr q5 0) t19 H5) fun u H8 => X H8 := by
  refine load_at hO (Γ.length + 0) (at_r rfl) rfl ?_
  refine opP_i (bin_shlU (n := 8) rfl (by decide)) ?_
  rw [uint_of hb.1]
  refine opW_i (cvU rfl) ?_
  have h2 : m * 2 ^ 8 % szU .u64 = m * 2 ^ 8 := Nat.mod_eq_of_lt (show m * 2 ^ 8 < 2 ^ 64 by omega)
  have h3 : b.toNat % szU .u64 = b.toNat := Nat.mod_eq_of_lt (show b.toNat < 2 ^ 64 by omega)
  rw [h2, h3]
  refine opP_i (bin_orU rfl (show m * 2 ^ 8 < 2 ^ 64 by omega) (show b.toNat < 2 ^ 64 by omega)) ?_
  rw [or_low (by omega)]
  refine store1_at hO (Γ.length + 0) (at_r rfl) rfl (show 0 < 1 by omega) (show _ = [uint .u64 (b.toNat + 256 * m)] from rfl) ?_
  intro H hO
  exact hk _ hO.set_r
set_option maxHeartbeats 1000000 in
theorem rFixed_spec {k : Nat} (hk8 : k ≤ 8) (hO : St H Γ) (hj : Γ[j]? = some (p, rdr v e)) (hv : RdB Γ v xs) (hb : ∀ x ∈ xs, 0 ≤ x ∧ x ≤ 255)
    (hk : ∀ H' v2, St H' (Γ.set j (p, rdr v2 (tkE xs e k))) → Inh v xs v2 (tkR xs e k) → K (uint .u64 (leV (tkB xs e k))) H') : wCall P n_code_Reader_Fixed [ptr p 0, int k] H K := by
  apply code_Reader_Fixed_ok; unfold code_Reader_Fixed
  refine new_at hO ?_
  intro q5 H hO
  have hjl := (List.getElem?_eq_some_iff.1 hj).1
  refine store1_at hO (Γ.length + 0) (at_r rfl) rfl (show 0 < 1 by omega) (show _ = [uint .u64 0] from rfl) ?_
  intro H hO
  replace hO : St H (Γ ++ [(q5, ⟨[uint .u64 0], true⟩)]) := hO.set_r
  refine within_spec hk8 ?_
  refine take_spec hO (at_l hj) hv.app (by omega) ?_
  intro H v1 v2 hO r1 r2
  rw [List.set_append_left _ _ hjl] at hO
  have hbb := RdB.bytes hb k e
  have hbl := tkB_len xs e k
  have hk := hk (v2 := v2)
  have r1 := r1 _ (rd_set (b' := rdr v2 (tkE xs e k)) (p' := p) hv hj (RdB.shape hv))
  generalize Γ.set j (p, rdr v2 (tkE xs e k)) = Γ2 at *
  generalize tkB xs e k = bs at *
  apply slices_Backward_byte_byte_ok
  unfold slices_Backward_byte_byte
  refine new_at hO ?_
  intro q H9 hO
  obtain ⟨a1, n1, c1, e1⟩ := RdB.shape r1
  have hc1 : cellsL v1 = [v1] := by rw [e1]; rfl
  rw [hc1, List.append_assoc] at hO
  have G0 : ∀ m : Nat, RdB (Γ2 ++ [(q5, ⟨[uint .u64 m], true⟩), (q, ⟨[v1], true⟩)]) v1 bs := fun m => r1.app
  refine range_at (L := lp0) hO (f := n_slices_Backward_byte_byte_1) (args := [yieldV (Nat.succ H9.next), ptr q 0]) rfl ?_
  intro T hT hag H0 hO0
  generalize hL : lpc (Nat.succ H9.next) _ lp0 = L at hO0
  refine Backward1_spec (L := L) (l := Nat.succ H9.next) (jq := Γ2.length + 1) (G := fun m => Γ2 ++ [(q5, ⟨[uint .u64 (leV (bs.drop m))], true⟩), (q, ⟨[v1], true⟩)]) (fun m => at_r rfl) (fun m => G0 _) (by omega) ?_ (by rw [List.drop_of_length_le (Nat.le_refl _)]; exact hO0) ?_
  · intro m hm H hOm
    subst hL
    refine round_at (n := 21) hOm hT hag rfl (by decide) ?_
    rw [code_Reader_Fixed_R0_eq]
    unfold code_Reader_Fixed_R0
    refine wBegin_at hOm ?_
    intro H2 hO2
    have hx := hbb _ (List.getElem_mem hm)
    have hlt := leV_lt (bs.drop (m + 1)) fun y hy => hbb y (List.mem_of_mem_drop hy)
    have hpw : 256 ^ (bs.drop (m + 1)).length ≤ 256 ^ 7 := Nat.pow_le_pow_right (by omega) (by rw [List.length_drop]; omega)
    refine fixed_body (L := lpc (Nat.succ H9.next) _ lp0) hO2 (Nat.lt_of_lt_of_le hlt hpw) hx ?_
    intro H3 hO3
    refine wEnd_at hO3 ?_
    intro H4 hO4
    refine ⟨rfl, ?_⟩
    rw [leV_drop hm]
    exact hO4
  · intro H2 hO2
    subst hL
    refine ⟨.ready, _, by simp, hO2, ?_⟩
    intro H3 hO3
    show opW _ _
    refine load_at hO3 (Γ2.length + 0) (at_r rfl) rfl ?_
    exact hk _ hO3.left r2
abbrev rdN (Γ : List (Nat × Blk)) (j p : Nat) (xs : List Int) (e : Int) (n : Nat) (v2 : Value) : List (Nat × Blk) := Γ.set j (p, rdr v2 (tkE xs e n))
theorem rRaw_spec {n : Nat} (hO : St H Γ) (hj : Γ[j]? = some (p, rdr v e)) (hv : RdB Γ v xs) (hn : n ≤ 1000000) (hx : xs.length ≤ 1000000)
    (hk : ∀ H' v2 v' cs', St H' (rdN Γ j p xs e n v2 ++ outB v' cs') → Inh v xs v2 (tkR xs e n) → OwnB v' (tkB xs e n) cs' → K v' H') : wCall P n_code_Reader_Raw [ptr p 0, int n] H K := by
  apply code_Reader_Raw_ok; unfold code_Reader_Raw
  refine take_spec hO hj hv hn ?_
  intro H v1 v2 hO r1 r2
  have hl := tkB_len xs e n
  refine Clone_spec hO (r1 _ (rd_set (b' := rdr v2 (tkE xs e n)) (p' := p) hv hj (RdB.shape hv))) (by omega) ?_
  intro H' v' cs' hO' hv'
  exact hk H' v2 v' cs' hO' r2 hv'
end J
set_option linter.unusedVariables false
set_option linter.unusedSimpArgs false
set_option maxRecDepth 100000
namespace J
open Go Go.Ab
variable {H : Heap} {Γ : List (Nat × Blk)} {K : Value → Heap → Prop} {v w x : Value} {xs ys : List Int} {j p : Nat} {e : Int}
section
variable {α : Type} {f : α → List Value} {l : List α} {n i o m : Nat}
theorem flat_len (hw : ∀ x ∈ l, (f x).length = n) : (l.flatMap f).length = l.length * n := by
  induction l with
  | nil => simp
  | cons a l ih =>
    rw [List.flatMap_cons, List.length_append, ih (fun x h => hw x (List.mem_cons_of_mem _ h)), hw a List.mem_cons_self, List.length_cons, Nat.add_mul]; omega
theorem flat_cut (hw : ∀ x ∈ l, (f x).length = n) (h : i < l.length) : ∃ A B, l.flatMap f = A ++ (f l[i] ++ B) ∧ A.length = i * n ∧ ∀ y, (l.set i y).flatMap f = A ++ (f y ++ B) := by
  refine ⟨(l.take i).flatMap f, (l.drop (i + 1)).flatMap f, ?_, ?_, fun y => ?_⟩
  · conv => lhs; rw [← List.take_append_drop i l, List.drop_eq_getElem_cons h]
    rw [List.flatMap_append, List.flatMap_cons]
  · rw [flat_len (fun x h => hw x (List.mem_of_mem_take h)), List.length_take, Nat.min_eq_left (by omega)]
  · rw [List.set_eq_take_append_cons_drop, if_pos h, List.flatMap_append, List.flatMap_cons]
theorem flat_at (hw : ∀ x ∈ l, (f x).length = n) (h : i < l.length) (hm : o + m ≤ n) : ((l.flatMap f).drop (i * n + o)).take m = ((f l[i]).drop o).take m := by
  obtain ⟨A, B, e, ha, _⟩ := flat_cut hw h
  have hl := hw _ (List.getElem_mem h)
  rw [e, ← List.drop_drop, ← ha, List.drop_left, List.drop_append_of_le_length (by omega), List.take_append_of_le_length (by rw [List.length_drop]; omega)]
theorem flat_put (hw : ∀ x ∈ l, (f x).length = n) (h : i < l.length) {y : α} {new : List Value} (hm : o + new.length ≤ n) (hy : f y = (f l[i]).take o ++ (new ++ (f l[i]).drop (o + new.length))) :
    (l.flatMap f).take (i * n + o) ++ (new ++ (l.flatMap f).drop (i * n + o + new.length)) = (l.set i y).flatMap f := by
  obtain ⟨A, B, e, ha, hs⟩ := flat_cut hw h
  have hl := hw _ (List.getElem_mem h)
  rw [hs, hy, e, ← ha]
  have e1 : (A ++ (f l[i] ++ B)).take (A.length + o) = A ++ (f l[i]).take o := by
    rw [List.take_length_add_append, List.take_append_of_le_length (by omega)]
  have e2 : (A ++ (f l[i] ++ B)).drop (A.length + o + new.length) = (f l[i]).drop (o + new.length) ++ B := by
    rw [Nat.add_assoc, List.drop_length_add_append, List.drop_append_of_le_length (by omega)]
  rw [e1, e2]
  simp
theorem flat_get (hw : ∀ x ∈ l, (f x).length = n) (h : i < l.length) (hm : o < n) : (l.flatMap f)[i * n + o]? = (f l[i])[o]? := by
  obtain ⟨A, B, e, ha, _⟩ := flat_cut hw h
  have hl := hw _ (List.getElem_mem h)
  rw [e, ← ha, List.getElem?_append_right (by omega), Nat.add_sub_cancel_left, List.getElem?_append_left (by omega)]
end
theorem _root_.Go.Ab.St.rot [lp : LpC] {A B : List (Nat × Blk)} (h : St H ((Γ ++ A) ++ B)) : St H ((Γ ++ B) ++ A) := h.perm (by
  rw [List.append_assoc, List.append_assoc]
  exact List.Perm.append_left Γ List.perm_append_comm)
theorem append_elem2 [lp : LpC] {size bytes n q c : Nat} {cs new : List Value} {b : Bool} (hO : St H ((Γ ++ outB v cs) ++ [(q, ⟨new, b⟩)])) (hv : Own size v n cs) (hs : new.length = size) (hp : 0 < size) (h1 : new.all oneCell = true)
    (hr : (n + 1) * bytes ≤ 140737488355328) (hr2 : n + 1 ≤ 9223372036854775807)
    (hk : ∀ p' H', St H' (Γ ++ [(p', ⟨cs ++ new, true⟩)]) → Own size (sl p' 0 (n + 1) (2 * size)) (n + 1) (cs ++ new) → K (sl p' 0 (n + 1) (2 * size)) H') : opW (appendWith size bytes v (sl q 0 1 c) H) K := by
  have hO2 := hO.rot
  refine append_own hO2 hv hp (m := 1) rfl (new := new) ?_ (by omega) hr hr2 h1 (by omega) ?_
  · have hg := hO.at ((Γ ++ outB v cs).length + 0) (at_r rfl) (b := ⟨new, b⟩) (.inr (by intro h; simp only at h; rw [h] at hs; simp at hs; omega))
    rw [elems_sl hg (by simp [hs])]
    rw [List.drop_zero, Nat.one_mul, List.take_of_length_le (Nat.le_of_eq hs)]
  · intro p' H' hO' hv'
    refine hk _ _ ?_ hv'
    show St H' (Γ ++ [(p', ⟨cs ++ new, true⟩)])
    exact St.sub hO' (List.Sublist.append (List.sublist_append_left _ _) (List.Sublist.refl _))
theorem append_elem [lp : LpC] {size bytes n q c : Nat} {cs new : List Value} {b : Bool} (hO : St H ((Γ ++ outB v cs) ++ [(q, ⟨new, b⟩)])) (hv : Own size v n cs) (hs : new.length = size) (hp : 0 < size) (h1 : new.all oneCell = true)
    (hr : (n + 1) * bytes ≤ 140737488355328) (hr2 : n + 1 ≤ 9223372036854775807)
    (hk : ∀ v' H', St H' (Γ ++ outB v' (cs ++ new)) → Own size v' (n + 1) (cs ++ new) → K v' H') : opW (appendWith size bytes v (sl q 0 1 c) H) K :=
  append_elem2 hO hv hs hp h1 hr hr2 fun p' H' h1 h2 => hk _ _ h1 h2
abbrev sec (s : List Int) : Value := agg (by8 s)
def blank : List Int := List.replicate 64 255
def zeros : List Int := List.replicate 64 0
theorem by8_len (s : List Int) : (by8 s).length = s.length := by simp [by8]
theorem by8_one (s : List Int) : (by8 s).all oneCell = true := by simp [by8, oneCell]
theorem by8_simple (xs : List Int) : (by8 xs).all simpleB = true := by simp [simpleB, simple0]
theorem zcS : zc P 121 = by8 zeros := by kernel_rfl
theorem bS : (buildC P 121).f [] = some (sec zeros) := by kernel_rfl
def kSec : List CK := List.replicate 64 (.i .u8)
theorem fS : flatK P 100 121 = some kSec := by kernel_rfl
theorem fit_by8 : ∀ (s : List Int), Fit (List.replicate s.length (.i .u8)) (by8 s)
  | [] => trivial
  | _ :: s => ⟨rfl, fit_by8 s⟩
theorem fitSec {s : List Int} (h : s.length = 64) : Fit kSec (by8 s) := by
  have := fit_by8 s
  rw [h] at this; exact this
theorem eqCells_by8 : ∀ (a b : List Int), eqCells (by8 a) (by8 b) = decide (a = b)
  | [], [] => rfl
  | [], _ :: _ => rfl
  | _ :: _, [] => rfl
  | x :: a, y :: b => by
    show (decide (x = y) && eqCells (by8 a) (by8 b)) = _
    rw [eqCells_by8 a b]
    by_cases h : x = y
    · subst h; simp
    · simp [h]
theorem eqS {a b : List Int} (c : Bool) (ha : a.length = 64) (hb : b.length = 64) : (binC P .eql 121 c).f (sec a) (sec b) = some (.bool (decide (a = b))) := by
  rw [bin_eql_f fS (by kernel_rfl) (by kernel_rfl) (fitSec ha) (fitSec hb), eqCells_by8]
theorem neS {a b : List Int} (c : Bool) (ha : a.length = 64) (hb : b.length = 64) : (binC P .neq 121 c).f (sec a) (sec b) = some (.bool (decide (a ≠ b))) := by
  rw [bin_neq_f fS (by kernel_rfl) (by kernel_rfl) (fitSec ha) (fitSec hb), eqCells_by8]
  simp
theorem fill_set {y : Nat} (h : y < 64) : (by8 (List.replicate y 255 ++ List.replicate (64 - y) 0)).set (0 + ((y : Int)).toNat * 1) (.int .u8 255) = by8 (List.replicate (y + 1) 255 ++ List.replicate (64 - (y + 1)) 0) := by
  have e : 0 + ((y : Int)).toNat * 1 = y := by rw [Int.toNat_natCast]; omega
  rw [e, show 64 - y = (64 - (y + 1)) + 1 by omega, List.replicate_succ]
  have e2 : by8 (List.replicate y 255 ++ 0 :: List.replicate (64 - (y + 1)) 0) = by8 (List.replicate y 255) ++ (.int .u8 0 :: by8 (List.replicate (64 - (y + 1)) 0)) := by simp [by8]
  rw [e2, List.set_append_right _ _ (by rw [by8_len]; simp), by8_len, List.length_replicate, Nat.sub_self, List.set_cons_zero, List.replicate_succ']
  simp [by8]
theorem Blank_spec [lp : LpC] (hO : St H Γ) (hk : ∀ H', St H' Γ → K (sec blank) H') : wCall P n_flash_Blank [] H K := by
  apply flash_Blank_ok; unfold flash_Blank
  rw [zcS]
  refine new_at hO ?_
  intro p0 H hO
  refine new_at hO ?_
  intro p1 H hO
  rw [List.append_assoc] at hO
  refine flash_Blank_L0_ind (fun k l' H' => ∃ y : Nat, y ≤ 64 ∧ k = 64 - y ∧ l' = [ptr p0 0, ptr p1 0, int y] ∧ St H' (Γ ++ [(p0, ⟨by8 zeros, true⟩), (p1, ⟨by8 (List.replicate y 255 ++ List.replicate (64 - y) 0), true⟩)])) _ _ ?_ 64 _ _ ⟨0, by omega, rfl, rfl, hO⟩
  clear hO
  rintro k l' H' ⟨y, hy, rfl, rfl, hO⟩
  unfold flash_Blank_L0
  try simp only [nth_zero, nth_succ]
  repeat (first | refine oi ?_ | refine ow ?_ | refine wy ?_ | refine wn ?_ | refine wt ?_ | refine wf' ?_ | refine cy ?_ | refine cn ?_)
  refine wIf_dec (fun h => ?_) (fun h => ?_)
  · have hyl : y < 64 := by omega
    refine opP_i (idxPtr_ok (by omega) (by omega)) ?_
    refine store1_at hO (Γ.length + 1) (at_r rfl) rfl (by rw [by8_len]; simp; omega) (fill_set hyl) ?_
    intro H hO
    repeat (first | refine oi ?_ | refine ow ?_ | refine wy ?_ | refine wn ?_ | refine wt ?_ | refine wf' ?_ | refine cy ?_ | refine cn ?_)
    exact ⟨_, by omega, y + 1, by omega, rfl, rfl, hO.set_r⟩
  · have e : y = 64 := by omega
    subst e
    repeat (first | refine oi ?_ | refine ow ?_ | refine wy ?_ | refine wn ?_ | refine wt ?_ | refine wf' ?_ | refine cy ?_ | refine cn ?_)
    refine loadAll_at hO (Γ.length + 1) (at_r rfl) (by rw [by8_len]; rfl) (by omega) ?_
    refine storeAll_at hO (Γ.length + 0) (at_r rfl) (by rw [by8_len]; rfl) (by rw [by8_len]; rfl) (by8_one _) ?_
    intro H hO
    refine loadAll_at hO (Γ.length + 0) (by rw [Go.Ab.set_r]; exact at_r rfl) (by rw [by8_len]; rfl) (by omega) ?_
    exact hk _ (hO.set_r).left
end J
set_option linter.unusedVariables false
set_option linter.unusedSimpArgs false
set_option maxRecDepth 100000
namespace J
open Go Go.Ab
variable {H : Heap} {Γ : List (Nat × Blk)} {K : Value → Heap → Prop} {v w x : Value} {xs ys : List Int} {j p : Nat} {e : Int}
structure Cell where
  kept : List Int
  seen : List Int
  wear : Int
structure Dv where
  cells : List Cell
  done : List (Nat × List Int)
  most : Int
  budget : Int
  down : Bool
def cel (c : Cell) : List Value := by8 c.kept ++ (by8 c.seen ++ [int c.wear])
def celC (l : List Cell) : List Value := l.flatMap cel
def chg (c : Nat × List Int) : List Value := int c.1 :: by8 c.2
def chgC (l : List (Nat × List Int)) : List Value := l.flatMap chg
structure Cell.Ok (c : Cell) : Prop where
  k : c.kept.length = 64
  s : c.seen.length = 64
  w : 0 ≤ c.wear ∧ c.wear ≤ 100000
structure Dv.Ok (d : Dv) : Prop where
  c : ∀ c ∈ d.cells, c.Ok
  n : d.cells.length ≤ 4096
  ds : ∀ x ∈ d.done, x.1 < d.cells.length ∧ x.2.length = 64
  m : d.most ≤ 100000
  b : -1 ≤ d.budget ∧ d.budget ≤ 9223372036854775807
theorem cel_len {c : Cell} (h : c.Ok) : (cel c).length = 129 := by simp [cel, by8_len, h.k, h.s]
theorem chg_len {c : Nat × List Int} (h : c.2.length = 64) : (chg c).length = 65 := by simp [chg, by8_len, h]
theorem cel_simple (c : Cell) : (cel c).all simpleB = true := by simp [cel, simpleB, simple0]
theorem cel_one (c : Cell) : (cel c).all oneCell = true := by simp [cel, by8, oneCell]
theorem chg_one (c : Nat × List Int) : (chg c).all oneCell = true := by simp [chg, by8, oneCell]
theorem celC_simple (l : List Cell) : (celC l).all simpleB = true := by
  simp only [celC, List.all_flatMap, List.all_eq_true]
  intro c _ x hx
  exact List.all_eq_true.1 (cel_simple c) x hx
theorem celC_len {l : List Cell} (h : ∀ c ∈ l, c.Ok) : (celC l).length = l.length * 129 := flat_len fun c hc => cel_len (h c hc)
def dv (pc : Nat) (vd : Value) (d : Dv) : List Value := [sl pc 0 d.cells.length 259, vd, int d.most, int d.budget, .bool d.down]
abbrev DW (pd pc : Nat) (vd : Value) (d : Dv) : List (Nat × Blk) := [(pd, ⟨dv pc vd d, true⟩), (pc, ⟨celC d.cells, true⟩)] ++ outB vd (chgC d.done)
abbrev OwnD (vd : Value) (d : Dv) : Prop := Own 65 vd d.done.length (chgC d.done)
def Dv.has (d : Dv) (at' : Int) : Prop := 0 ≤ at' ∧ at' < d.cells.length
instance (d : Dv) (at' : Int) : Decidable (d.has at') := by unfold Dv.has; infer_instance
variable {pd pc : Nat} {vd : Value} {d : Dv} {a : Int}
theorem dSize_spec (hO : St H Γ) (hj : Γ[j]? = some (pd, ⟨dv pc vd d, true⟩)) (hk : K (int d.cells.length) H) : wCall P n_flash_Device_Size [ptr pd 0] H K := by
  apply flash_Device_Size_ok; unfold flash_Device_Size
  repeat (first | refine oi ?_ | refine ow ?_ | refine wy ?_ | refine wn ?_ | refine wt ?_ | refine wf' ?_ | refine cy ?_ | refine cn ?_)
  refine load_at hO j hj rfl ?_
  repeat (first | refine oi ?_ | refine ow ?_ | refine wy ?_ | refine wn ?_ | refine wt ?_ | refine wf' ?_ | refine cy ?_ | refine cn ?_)
  exact hk
theorem cell_spec (hO : St H Γ) (hj : Γ[j]? = some (pd, ⟨dv pc vd d, true⟩)) (hk1 : d.has a → K (ptr pc (a.toNat * 129)) H) (hk0 : ¬ d.has a → K (.pointer none) H) : wCall P n_flash_Device_cell [ptr pd 0, int a] H K := by
  apply flash_Device_cell_ok; unfold flash_Device_cell
  refine join_with (fun l' H' => l' = [ptr pd 0, int a] ∧ H' = H ∧ d.has a) ?_ ?_
  · repeat (first | refine oi ?_ | refine ow ?_ | refine wy ?_ | refine wn ?_ | refine wt ?_ | refine wf' ?_ | refine cy ?_ | refine cn ?_)
    refine wIf_dec (fun h => ?_) (fun h => ?_)
    · repeat (first | refine oi ?_ | refine ow ?_ | refine wy ?_ | refine wn ?_ | refine wt ?_ | refine wf' ?_ | refine cy ?_ | refine cn ?_)
      exact hk0 fun h' => by have := h'.1; omega
    · repeat (first | refine oi ?_ | refine ow ?_ | refine wy ?_ | refine wn ?_ | refine wt ?_ | refine wf' ?_ | refine cy ?_ | refine cn ?_)
      refine load_at hO j hj rfl ?_
      repeat (first | refine oi ?_ | refine ow ?_ | refine wy ?_ | refine wn ?_ | refine wt ?_ | refine wf' ?_ | refine cy ?_ | refine cn ?_)
      refine wIf_dec (fun h2 => ?_) (fun h2 => ?_)
      · exact hk0 fun h' => by have := h'.2; omega
      · exact ⟨rfl, rfl, by omega, by omega⟩
  · rintro l' H' ⟨rfl, rfl, h⟩
    try simp only [nth_zero, nth_succ]
    repeat (first | refine oi ?_ | refine ow ?_ | refine wy ?_ | refine wn ?_ | refine wt ?_ | refine wf' ?_ | refine cy ?_ | refine cn ?_)
    refine load_at hO j hj rfl ?_
    refine opP_i (idxSl_ok h.1 h.2) ?_
    rw [Nat.zero_add]
    exact hk1 h
def zCell : Cell := ⟨zeros, zeros, 0⟩
def Dv.cell (d : Dv) (a : Int) : Cell := d.cells.getD a.toNat zCell
theorem Dv.get {d : Dv} {a : Int} (h : d.has a) : ∃ hi : a.toNat < d.cells.length, d.cells[a.toNat] = d.cell a := by
  have hi : a.toNat < d.cells.length := by have := h.1; have := h.2; omega
  refine ⟨hi, ?_⟩
  unfold Dv.cell
  rw [List.getD_eq_getElem?_getD, List.getElem?_eq_getElem hi]; rfl
theorem Dv.cellOk {d : Dv} {a : Int} (ok : ∀ c ∈ d.cells, c.Ok) (h : d.has a) : (d.cell a).Ok := by
  obtain ⟨hi, e⟩ := Dv.get h
  rw [← e]
  exact ok _ (List.getElem_mem hi)
theorem seen_at {d : Dv} {a : Int} (ok : ∀ c ∈ d.cells, c.Ok) (h : d.has a) : ((celC d.cells).drop (a.toNat * 129 + 64)).take 64 = by8 (d.cell a).seen := by
  obtain ⟨hi, e⟩ := Dv.get h
  unfold celC
  rw [flat_at (fun c hc => cel_len (ok c hc)) hi (by omega), e]
  have hk := (Dv.cellOk ok h)
  unfold cel
  rw [List.drop_left' (by rw [by8_len]; exact hk.k), List.take_left' (by rw [by8_len]; exact hk.s)]
theorem kept_at {d : Dv} {a : Int} (ok : ∀ c ∈ d.cells, c.Ok) (h : d.has a) : ((celC d.cells).drop (a.toNat * 129 + 0)).take 64 = by8 (d.cell a).kept := by
  obtain ⟨hi, e⟩ := Dv.get h
  unfold celC
  rw [flat_at (fun c hc => cel_len (ok c hc)) hi (by omega), e]
  have hk := (Dv.cellOk ok h)
  unfold cel
  rw [List.drop_zero, List.take_left' (by rw [by8_len]; exact hk.k)]
theorem wear_at {d : Dv} {a : Int} (ok : ∀ c ∈ d.cells, c.Ok) (h : d.has a) : (celC d.cells)[a.toNat * 129 + 128]? = some (int (d.cell a).wear) := by
  obtain ⟨hi, e⟩ := Dv.get h
  unfold celC
  rw [flat_get (fun c hc => cel_len (ok c hc)) hi (by omega), e]
  have hk := (Dv.cellOk ok h)
  unfold cel
  rw [← List.append_assoc, List.getElem?_append_right (by simp [by8_len, hk.k, hk.s])]
  simp [by8_len, hk.k, hk.s]
def Dv.read (d : Dv) (a : Int) : List Int × Int := if d.has a then ((d.cell a).seen, 0) else (zeros, 61)
theorem dRead_spec (ok : ∀ c ∈ d.cells, c.Ok) (hO : St H (Γ ++ DW pd pc vd d)) (hk : ∀ H', St H' (Γ ++ DW pd pc vd d) → K (.tuple [sec (d.read a).1, int (d.read a).2].toArray) H') : wCall P n_flash_Device_Read [ptr pd 0, int a] H K := by
  apply flash_Device_Read_ok; unfold flash_Device_Read
  rw [zcS]
  refine new_at hO ?_
  intro p4 H hO
  refine cell_spec hO (at_l (at_r (k := 0) rfl)) ?_ ?_
  · intro h
    unfold Dv.read at hk
    rw [if_pos h] at hk
    refine opP_i (show (binC P .eql 172 true).f _ _ = some (.bool false) from rfl) ?_
    repeat (first | refine oi ?_ | refine ow ?_ | refine wy ?_ | refine wn ?_ | refine wt ?_ | refine wf' ?_ | refine cy ?_ | refine cn ?_)
    refine loadAgg_at hO (Γ.length + 1) (at_l (at_r rfl)) (seen_at ok h) (by rw [by8_len]; exact (Dv.cellOk ok h).s) (by omega) ?_
    refine storeAll_at hO ((Γ ++ DW pd pc vd d).length + 0) (at_r rfl) (by rw [by8_len]; rfl) (by rw [by8_len]; exact (Dv.cellOk ok h).s) (by8_one _) ?_
    intro H hO
    replace hO := hO.set_r
    refine loadAll_at hO ((Γ ++ DW pd pc vd d).length + 0) (at_r rfl) (by rw [by8_len]; exact (Dv.cellOk ok h).s) (by omega) ?_
    exact hk _ hO.left
  · intro h
    unfold Dv.read at hk
    rw [if_neg h] at hk
    refine opP_i (show (binC P .eql 172 true).f _ _ = some (.bool true) from rfl) ?_
    repeat (first | refine oi ?_ | refine ow ?_ | refine wy ?_ | refine wn ?_ | refine wt ?_ | refine wf' ?_ | refine cy ?_ | refine cn ?_)
    refine opP_i bS ?_
    refine storeAll_at hO ((Γ ++ DW pd pc vd d).length + 0) (at_r rfl) (by rw [by8_len]; rfl) (by rw [by8_len]; rfl) (by8_one _) ?_
    intro H hO
    replace hO := hO.set_r
    refine loadAll_at hO ((Γ ++ DW pd pc vd d).length + 0) (at_r rfl) (by rw [by8_len]; rfl) (by omega) ?_
    exact hk _ hO.left
def Dv.step (d : Dv) : Dv := { d with down := d.down || decide (d.budget = 0), budget := if ¬ (d.down = true ∨ d.budget = 0) ∧ 0 < d.budget then d.budget - 1 else d.budget }
theorem step_spec (hb : -1 ≤ d.budget ∧ d.budget ≤ 9223372036854775807) (hO : St H Γ) (hj : Γ[j]? = some (pd, ⟨dv pc vd d, true⟩)) (hk : ∀ H', St H' (Γ.set j (pd, ⟨dv pc vd d.step, true⟩)) → K (.bool !d.step.down) H') : wCall P n_flash_Device_step [ptr pd 0] H K := by
  apply flash_Device_step_ok; unfold flash_Device_step
  have hjl := (List.getElem?_eq_some_iff.1 hj).1
  refine join_with (fun l' H' => l' = [ptr pd 0] ∧ St H' (Γ.set j (pd, ⟨dv pc vd { d with down := d.down || decide (d.budget = 0) }, true⟩))) ?_ ?_
  · repeat (first | refine oi ?_ | refine ow ?_ | refine wy ?_ | refine wn ?_ | refine wt ?_ | refine wf' ?_ | refine cy ?_ | refine cn ?_)
    refine load_at hO j hj rfl ?_
    cases hd : d.down with
    | true =>
      repeat (first | refine oi ?_ | refine ow ?_ | refine wy ?_ | refine wn ?_ | refine wt ?_ | refine wf' ?_ | refine cy ?_ | refine cn ?_)
      refine store1_at hO j hj rfl (show 4 < 5 by omega) rfl ?_
      intro H hO
      refine ⟨rfl, ?_⟩
      simp only [Bool.true_or]
      exact hO
    | false =>
      repeat (first | refine oi ?_ | refine ow ?_ | refine wy ?_ | refine wn ?_ | refine wt ?_ | refine wf' ?_ | refine cy ?_ | refine cn ?_)
      refine load_at hO j hj rfl ?_
      repeat (first | refine oi ?_ | refine ow ?_ | refine wy ?_ | refine wn ?_ | refine wt ?_ | refine wf' ?_ | refine cy ?_ | refine cn ?_)
      refine store1_at hO j hj rfl (show 4 < 5 by omega) rfl ?_
      intro H hO
      refine ⟨rfl, ?_⟩
      simp only [Bool.false_or]
      exact hO
  clear hO
  rintro l' H ⟨rfl, hO⟩
  try simp only [nth_zero, nth_succ]
  have hj2 : (Γ.set j (pd, (⟨dv pc vd { d with down := d.down || decide (d.budget = 0) }, true⟩ : Blk)))[j]? = some (pd, ⟨dv pc vd { d with down := d.down || decide (d.budget = 0) }, true⟩) := List.getElem?_set_self hjl
  refine join_with (fun l' H' => l' = [ptr pd 0] ∧ St H' (Γ.set j (pd, ⟨dv pc vd d.step, true⟩))) ?_ ?_
  · refine join_with (fun l' H' => l' = [ptr pd 0, .bool (decide (¬ (d.down = true ∨ d.budget = 0) ∧ 0 < d.budget))] ∧ H' = H) ?_ ?_
    · repeat (first | refine oi ?_ | refine ow ?_ | refine wy ?_ | refine wn ?_ | refine wt ?_ | refine wf' ?_ | refine cy ?_ | refine cn ?_)
      refine load_at hO j hj2 rfl ?_
      refine opP_i un_not ?_
      by_cases hd : d.down = true ∨ d.budget = 0
      · have e : (d.down || decide (d.budget = 0)) = true := by rcases hd with h | h <;> simp [h]
        rw [show (!({ d with down := d.down || decide (d.budget = 0) } : Dv).down) = false by show (!(d.down || decide (d.budget = 0))) = false; rw [e]; rfl]
        repeat (first | refine oi ?_ | refine ow ?_ | refine wy ?_ | refine wn ?_ | refine wt ?_ | refine wf' ?_ | refine cy ?_ | refine cn ?_)
        exact ⟨by rw [decide_eq_false (fun h => h.1 hd)], rfl⟩
      · have e : (d.down || decide (d.budget = 0)) = false := by
          cases h : d.down with
          | true => exact absurd (.inl h) hd
          | false => simp; exact fun h => hd (.inr h)
        rw [show (!({ d with down := d.down || decide (d.budget = 0) } : Dv).down) = true by show (!(d.down || decide (d.budget = 0))) = true; rw [e]; rfl]
        repeat (first | refine oi ?_ | refine ow ?_ | refine wy ?_ | refine wn ?_ | refine wt ?_ | refine wf' ?_ | refine cy ?_ | refine cn ?_)
        refine load_at hO j hj2 rfl ?_
        repeat (first | refine oi ?_ | refine ow ?_ | refine wy ?_ | refine wn ?_ | refine wt ?_ | refine wf' ?_ | refine cy ?_ | refine cn ?_)
        refine ⟨?_, rfl⟩
        show _ = [ptr pd 0, .bool _]
        rw [decide_eq_decide.2 (show (0 < d.budget) ↔ (¬ (d.down = true ∨ d.budget = 0) ∧ 0 < d.budget) from ⟨fun h => ⟨hd, h⟩, fun h => h.2⟩)]
    rintro l' H' ⟨rfl, rfl⟩
    try simp only [nth_zero, nth_succ]
    refine wIf_dec (fun h => ?_) (fun h => ?_)
    · repeat (first | refine oi ?_ | refine ow ?_ | refine wy ?_ | refine wn ?_ | refine wt ?_ | refine wf' ?_ | refine cy ?_ | refine cn ?_)
      refine load_at hO j hj2 rfl ?_
      repeat (first | refine oi ?_ | refine ow ?_ | refine wy ?_ | refine wn ?_ | refine wt ?_ | refine wf' ?_ | refine cy ?_ | refine cn ?_)
      refine opP_i (bin_subi (by have := h.2; show _ ≤ d.budget - 1; omega) (by show d.budget - 1 ≤ _; omega)) ?_
      repeat (first | refine oi ?_ | refine ow ?_ | refine wy ?_ | refine wn ?_ | refine wt ?_ | refine wf' ?_ | refine cy ?_ | refine cn ?_)
      refine store1_at hO j hj2 rfl (show 3 < 5 by omega) rfl ?_
      intro H hO
      rw [List.set_set] at hO
      refine ⟨trivial, ?_⟩
      have e : d.step = { d with down := d.down || decide (d.budget = 0), budget := d.budget - 1 } := by unfold Dv.step; rw [if_pos h]
      rw [e]; exact hO
    · refine ⟨trivial, ?_⟩
      have e : d.step = { d with down := d.down || decide (d.budget = 0) } := by unfold Dv.step; rw [if_neg h]
      rw [e]; exact hO
  clear hO hj2
  rintro l' H ⟨rfl, hO⟩
  try simp only [nth_zero, nth_succ]
  repeat (first | refine oi ?_ | refine ow ?_ | refine wy ?_ | refine wn ?_ | refine wt ?_ | refine wf' ?_ | refine cy ?_ | refine cn ?_)
  refine load_at hO j (List.getElem?_set_self hjl) rfl ?_
  repeat (first | refine oi ?_ | refine ow ?_ | refine wy ?_ | refine wn ?_ | refine wt ?_ | refine wf' ?_ | refine cy ?_ | refine cn ?_)
  exact hk _ hO
end J
set_option linter.unusedVariables false
set_option linter.unusedSimpArgs false
set_option maxRecDepth 100000
namespace J
open Go Go.Ab
variable {H : Heap} {Γ : List (Nat × Blk)} {K : Value → Heap → Prop} {v w x : Value} {xs ys : List Int} {j p : Nat} {e : Int}
variable {pd pc : Nat} {vd : Value} {d : Dv} {a : Int} {s : List Int}
theorem sec_fn (h : s.length = 64) : ∃ g : Nat → Int, s = (List.range 64).map g := ⟨fun i => s.getD i 0, by
  apply List.ext_getElem?
  intro i
  by_cases hi : i < 64
  · simp [hi, h]
  · rw [List.getElem?_eq_none (by omega), List.getElem?_eq_none (by simp; omega)]⟩
theorem bChg' (a : Int) (g : Nat → Int) : (buildC P 123).f [(0, int a), (1, sec ((List.range 64).map g))] = some (agg (int a :: by8 ((List.range 64).map g))) := by kernel_rfl
theorem bChg (a : Int) (h : s.length = 64) : (buildC P 123).f [(0, int a), (1, sec s)] = some (agg (int a :: by8 s)) := by
  obtain ⟨g, rfl⟩ := sec_fn h
  exact bChg' a g
theorem bsChg' (a : Int) (g : Nat → Int) (H : Heap) : (buildSliceC P 117 1).f [(0, agg (int a :: by8 ((List.range 64).map g)))] H = some (sl H.next 0 1 131, H.push (int a :: by8 ((List.range 64).map g))) := by kernel_rfl
theorem bsChg (a : Int) (h : s.length = 64) (H : Heap) : (buildSliceC P 117 1).f [(0, agg (int a :: by8 s))] H = some (sl H.next 0 1 131, H.push (int a :: by8 s)) := by
  obtain ⟨g, rfl⟩ := sec_fn h
  exact bsChg' a g H
theorem bCell' (g g' : Nat → Int) : (buildC P 125).f [(0, sec ((List.range 64).map g)), (1, sec ((List.range 64).map g'))] = some (agg (cel ⟨(List.range 64).map g, (List.range 64).map g', 0⟩)) := by kernel_rfl
theorem bCell {s s' : List Int} (h : s.length = 64) (h' : s'.length = 64) : (buildC P 125).f [(0, sec s), (1, sec s')] = some (agg (cel ⟨s, s', 0⟩)) := by
  obtain ⟨g, rfl⟩ := sec_fn h
  obtain ⟨g', rfl⟩ := sec_fn h'
  exact bCell' g g'
theorem zcChg : zc P 123 = int 0 :: by8 zeros := by kernel_rfl
def Dv.upd (d : Dv) (a : Int) (c : Cell) : Dv := { d with cells := d.cells.set a.toNat c }
def Dv.put (d : Dv) (a : Int) (s : List Int) : Dv := { d with cells := d.cells.set a.toNat { d.cell a with seen := s }, done := d.done ++ [(a.toNat, s)] }
theorem put_seen {c : Cell} (ok : c.Ok) (h : s.length = 64) : cel { c with seen := s } = (cel c).take 64 ++ (by8 s ++ (cel c).drop (64 + (by8 s).length)) := by
  unfold cel
  rw [List.take_left' (by rw [by8_len]; exact ok.k), ← List.drop_drop, List.drop_left' (by rw [by8_len]; exact ok.k), List.drop_left' (by rw [by8_len, by8_len, ok.s, h])]
theorem put_kept {c : Cell} (ok : c.Ok) (h : s.length = 64) : cel { c with kept := s } = (cel c).take 0 ++ (by8 s ++ (cel c).drop (0 + (by8 s).length)) := by
  unfold cel
  rw [List.take_zero, List.nil_append, Nat.zero_add, List.drop_left' (by rw [by8_len, by8_len, ok.k, h])]
theorem put_wear {c : Cell} (ok : c.Ok) (n : Int) : cel { c with wear := n } = (cel c).take 128 ++ ([int n] ++ (cel c).drop (128 + [int n].length)) := by
  have e : cel c = (by8 c.kept ++ by8 c.seen) ++ [int c.wear] := by simp [cel]
  have l : (by8 c.kept ++ by8 c.seen).length = 128 := by simp [by8_len, ok.k, ok.s]
  rw [e, List.take_left' l, List.drop_of_length_le (by rw [List.length_append, l]; simp)]
  simp [cel]
theorem set_seen (ok : ∀ c ∈ d.cells, c.Ok) (h : d.has a) (hs : s.length = 64) : (celC d.cells).take (a.toNat * 129 + 64) ++ (by8 s ++ (celC d.cells).drop (a.toNat * 129 + 64 + (by8 s).length)) = celC (d.cells.set a.toNat { d.cell a with seen := s }) := by
  obtain ⟨hi, e⟩ := Dv.get h
  have hok := Dv.cellOk ok h
  exact flat_put (fun c hc => cel_len (ok c hc)) hi (by rw [by8_len]; omega) (by rw [e]; exact put_seen hok hs)
theorem set_kept (ok : ∀ c ∈ d.cells, c.Ok) (h : d.has a) (hs : s.length = 64) : (celC d.cells).take (a.toNat * 129 + 0) ++ (by8 s ++ (celC d.cells).drop (a.toNat * 129 + 0 + (by8 s).length)) = celC (d.cells.set a.toNat { d.cell a with kept := s }) := by
  obtain ⟨hi, e⟩ := Dv.get h
  have hok := Dv.cellOk ok h
  exact flat_put (fun c hc => cel_len (ok c hc)) hi (by rw [by8_len]; omega) (by rw [e]; exact put_kept hok hs)
theorem set_wear (ok : ∀ c ∈ d.cells, c.Ok) (h : d.has a) (n : Int) : (celC d.cells).take (a.toNat * 129 + 128) ++ ([int n] ++ (celC d.cells).drop (a.toNat * 129 + 128 + 1)) = celC (d.cells.set a.toNat { d.cell a with wear := n }) := by
  obtain ⟨hi, e⟩ := Dv.get h
  have hok := Dv.cellOk ok h
  exact flat_put (fun c hc => cel_len (ok c hc)) hi (by simp) (by rw [e]; exact put_wear hok n)
theorem celC_has (ok : ∀ c ∈ d.cells, c.Ok) (h : d.has a) : a.toNat * 129 + 129 ≤ (celC d.cells).length := by
  rw [celC_len ok]
  have := h.1; have := h.2
  omega
theorem set_spec (ok : d.Ok) (h : d.has a) (hs : s.length = 64) (hd : d.done.length ≤ 1000000) (hO : St H (Γ ++ DW pd pc vd d)) (hv : OwnD vd d)
    (hk : ∀ H' vd', St H' (Γ ++ DW pd pc vd' (d.put a s)) → OwnD vd' (d.put a s) → K (.tuple [].toArray) H') : wCall P n_flash_Device_set [ptr pd 0, int a, sec s] H K := by
  apply flash_Device_set_ok; unfold flash_Device_set
  refine new_at hO ?_
  intro p5 H hO
  replace hO : St H ((Γ ++ [(p5, ⟨by8 s, true⟩)]) ++ DW pd pc vd d) := St.rot hO
  have i5 : (Γ ++ [(p5, (⟨by8 s, true⟩ : Blk))])[Γ.length + 0]? = some (p5, ⟨by8 s, true⟩) := at_r rfl
  have fin : ∀ {H : Heap} {Δ : List (Nat × Blk)}, St H ((Γ ++ [(p5, ⟨by8 s, true⟩)]) ++ Δ) → St H (Γ ++ Δ) := fun h => St.mid h
  generalize Γ ++ [(p5, (⟨by8 s, true⟩ : Blk))] = Γ' at hO i5 fin
  repeat (first | refine oi ?_ | refine ow ?_ | refine wy ?_ | refine wn ?_ | refine wt ?_ | refine wf' ?_ | refine cy ?_ | refine cn ?_)
  refine load_at hO (Γ'.length + 0) (at_r rfl) rfl ?_
  refine loadAll_at hO (Γ.length + 0) (at_l i5) (by rw [by8_len]; exact hs) (by omega) ?_
  refine opP_i (idxSl_ok h.1 h.2) ?_
  repeat (first | refine oi ?_ | refine ow ?_ | refine wy ?_ | refine wn ?_ | refine wt ?_ | refine wf' ?_ | refine cy ?_ | refine cn ?_)
  rw [Nat.zero_add]
  refine store_at hO (Γ'.length + 1) (at_r rfl) (show (by8 s).length = 64 by rw [by8_len]; exact hs) (by have := celC_has ok.c h; show a.toNat * 129 + 64 + 64 ≤ (celC d.cells).length; omega) (by8_one s) ?_
  intro H hO
  have e1 : (celC d.cells).take (a.toNat * 129 + 64) ++ (by8 s ++ (celC d.cells).drop (a.toNat * 129 + 64 + 64)) = celC (d.upd a { d.cell a with seen := s }).cells := by
    have := set_seen ok.c h hs
    rw [by8_len, hs] at this; exact this
  have l1 : (d.upd a { d.cell a with seen := s }).cells.length = d.cells.length := List.length_set
  replace hO : St H (Γ' ++ DW pd pc vd (d.upd a { d.cell a with seen := s })) := by
    have h3 : St H (Γ' ++ ([(pd, ⟨dv pc vd d, true⟩), (pc, ⟨(celC d.cells).take (a.toNat * 129 + 64) ++ (by8 s ++ (celC d.cells).drop (a.toNat * 129 + 64 + 64)), true⟩)] ++ outB vd (chgC d.done))) := hO.set_r
    have e2 : dv pc vd d = dv pc vd (d.upd a { d.cell a with seen := s }) := by unfold dv; rw [l1]; rfl
    rw [e1, e2] at h3
    exact h3
  repeat (first | refine oi ?_ | refine ow ?_ | refine wy ?_ | refine wn ?_ | refine wt ?_ | refine wf' ?_ | refine cy ?_ | refine cn ?_)
  refine load_at hO (Γ'.length + 0) (at_r rfl) rfl ?_
  refine loadAll_at hO (Γ.length + 0) (at_l i5) (by rw [by8_len]; exact hs) (by omega) ?_
  refine opP_i (bChg a hs) ?_
  have hO' : St H ((Γ' ++ [(pd, ⟨dv pc vd (d.upd a { d.cell a with seen := s }), true⟩), (pc, ⟨celC (d.upd a { d.cell a with seen := s }).cells, true⟩)]) ++ outB vd (chgC d.done)) := by
    rw [List.append_assoc]; exact hO
  refine newSl_at hO' (bsChg a hs _) ?_
  intro q H hO
  have ha : a = ((a.toNat : Nat) : Int) := by have := h.1; omega
  refine append_elem hO hv (by simp [by8_len, hs]) (by omega) (by simp [by8, oneCell]) (by omega) (by omega) ?_
  intro vd' H hO hv'
  rw [List.append_assoc] at hO
  repeat (first | refine oi ?_ | refine ow ?_ | refine wy ?_ | refine wn ?_ | refine wt ?_ | refine wf' ?_ | refine cy ?_ | refine cn ?_)
  obtain ⟨a1, n1, c1, e1⟩ : ∃ a1 n1 c1, vd' = .slice a1 n1 c1 := by rcases hv' with ⟨_, h, _⟩ | ⟨p, rfl | rfl, _⟩; omega; exact ⟨_, _, _, rfl⟩; exact ⟨_, _, _, rfl⟩
  refine store1_at hO (Γ'.length + 0) (at_r rfl) (by rw [e1]; rfl) (show 1 < 5 by omega) rfl ?_
  intro H hO
  have ec : chgC d.done ++ (int a :: by8 s) = chgC (d.put a s).done := by
    show _ = (d.done ++ [(a.toNat, s)]).flatMap chg
    rw [List.flatMap_append]
    show _ = d.done.flatMap chg ++ (int ((a.toNat : Nat) : Int) :: by8 s ++ [])
    rw [← ha, List.append_nil]; rfl
  have h3 := fin hO.set_r
  rw [ec] at h3 hv'
  refine hk _ vd' h3 ?_
  show Own 65 vd' (d.done ++ [(a.toNat, s)]).length _
  rw [List.length_append]
  exact hv'
end J
set_option linter.unusedVariables false
set_option linter.unusedSimpArgs false
set_option maxRecDepth 100000
namespace J
open Go Go.Ab
variable {H : Heap} {Γ : List (Nat × Blk)} {K : Value → Heap → Prop} {v w x : Value} {xs ys : List Int} {j p : Nat} {e : Int}
variable {pd pc : Nat} {vd : Value} {d : Dv} {a : Int} {s : List Int}
theorem Dv.step_ok (ok : d.Ok) : d.step.Ok := ⟨ok.c, ok.n, ok.ds, ok.m, by
  have := ok.b
  unfold Dv.step
  by_cases h : ¬ (d.down = true ∨ d.budget = 0) ∧ 0 < d.budget
  · rw [if_pos h]; have := h.2; show -1 ≤ d.budget - 1 ∧ d.budget - 1 ≤ _; omega
  · rw [if_neg h]; exact this⟩
theorem mem_set_ok {l : List Cell} {i : Nat} {c : Cell} (h : ∀ c ∈ l, c.Ok) (hc : c.Ok) : ∀ x ∈ l.set i c, x.Ok := by
  intro x hx
  rcases List.mem_or_eq_of_mem_set hx with h' | h'
  · exact h x h'
  · rw [h']; exact hc
theorem Dv.upd_ok {c : Cell} (ok : d.Ok) (hc : c.Ok) : (d.upd a c).Ok := ⟨mem_set_ok ok.c hc, by show (d.cells.set _ _).length ≤ _; rw [List.length_set]; exact ok.n, by
  intro x hx
  show x.1 < (d.cells.set _ _).length ∧ _
  rw [List.length_set]; exact ok.ds x hx, ok.m, ok.b⟩
theorem Dv.put_ok (ok : d.Ok) (h : d.has a) (hs : s.length = 64) : (d.put a s).Ok := by
  have hc := Dv.cellOk ok.c h
  refine ⟨mem_set_ok ok.c ⟨hc.k, hs, hc.w⟩, by show (d.cells.set _ _).length ≤ _; rw [List.length_set]; exact ok.n, ?_, ok.m, ok.b⟩
  intro x hx
  show x.1 < (d.cells.set _ _).length ∧ _
  rw [List.length_set]
  rcases List.mem_append.1 hx with hx | hx
  · exact ok.ds x hx
  · have : x = (a.toNat, s) := by simpa using hx
    subst this
    exact ⟨by have := h.1; have := h.2; show a.toNat < _; omega, hs⟩
def Dv.erase (d : Dv) (a : Int) : Dv × Int :=
  if ¬ d.has a then (d, 61) else if d.down = true then (d, 62) else if d.most ≤ (d.cell a).wear then (d, 64) else if d.step.down = true then (d.step, 62)
  else ((d.step.upd a { d.cell a with wear := (d.cell a).wear + 1 }).put a blank, 0)
def Dv.program (d : Dv) (a : Int) (s : List Int) : Dv × Int :=
  if ¬ d.has a then (d, 61) else if d.down = true then (d, 62) else if (d.cell a).seen ≠ blank then (d, 63) else if d.step.down = true then (d.step, 62)
  else (d.step.put a s, 0)
theorem blank_len : blank.length = 64 := rfl
theorem Dv.upd_has {c : Cell} : (d.upd a c).has a ↔ d.has a := by unfold Dv.has Dv.upd; simp
theorem Dv.erase_ok (ok : d.Ok) : (d.erase a).1.Ok := by
  unfold Dv.erase
  by_cases h : d.has a
  · rw [if_neg (fun h' => h' h)]
    split
    · exact ok
    split
    · exact ok
    split
    · exact Dv.step_ok ok
    rename_i h1 h2 h3
    have hc := Dv.cellOk ok.c h
    have hw := hc.w
    have hm := ok.m
    refine Dv.put_ok (Dv.upd_ok (Dv.step_ok ok) ⟨hc.k, hc.s, ?_⟩) (Dv.upd_has.2 h) rfl
    show 0 ≤ (d.cell a).wear + 1 ∧ (d.cell a).wear + 1 ≤ 100000
    omega
  · rw [if_pos h]; exact ok
theorem Dv.program_ok (ok : d.Ok) (hs : s.length = 64) : (d.program a s).1.Ok := by
  unfold Dv.program
  by_cases h : d.has a
  · rw [if_neg (fun h' => h' h)]
    split
    · exact ok
    split
    · exact ok
    split
    · exact Dv.step_ok ok
    exact Dv.put_ok (Dv.step_ok ok) h hs
  · rw [if_pos h]; exact ok
theorem step_at (ok : d.Ok) (hO : St H (Γ ++ DW pd pc vd d)) (hk : ∀ H', St H' (Γ ++ DW pd pc vd d.step) → K (.bool !d.step.down) H') : wCall P n_flash_Device_step [ptr pd 0] H K := by
  refine step_spec ok.b hO (j := Γ.length + 0) (at_r rfl) ?_
  intro H' h
  exact hk H' h.set_r
set_option maxHeartbeats 1000000 in
theorem dErase_spec (ok : d.Ok) (hd : d.done.length ≤ 1000000) (hO : St H (Γ ++ DW pd pc vd d)) (hv : OwnD vd d)
    (hk : ∀ H' vd', St H' (Γ ++ DW pd pc vd' (d.erase a).1) → OwnD vd' (d.erase a).1 → K (int (d.erase a).2) H') : wCall P n_flash_Device_Erase [ptr pd 0, int a] H K := by
  apply flash_Device_Erase_ok; unfold flash_Device_Erase
  unfold Dv.erase at hk
  refine cell_spec hO (at_r (k := 0) rfl) ?_ ?_
  · intro h
    rw [if_neg (fun h' => h' h)] at hk
    refine opP_i (show (binC P .eql 172 true).f _ _ = some (.bool false) from rfl) ?_
    repeat (first | refine oi ?_ | refine ow ?_ | refine wy ?_ | refine wn ?_ | refine wt ?_ | refine wf' ?_ | refine cy ?_ | refine cn ?_)
    refine load_at hO (Γ.length + 0) (at_r rfl) rfl ?_
    refine wIf_intro (fun hb => ?_) (fun hb => ?_)
    · rw [if_pos hb] at hk
      exact hk _ _ hO hv
    rw [if_neg (by rw [hb]; simp)] at hk
    repeat (first | refine oi ?_ | refine ow ?_ | refine wy ?_ | refine wn ?_ | refine wt ?_ | refine wf' ?_ | refine cy ?_ | refine cn ?_)
    refine load_at hO (Γ.length + 1) (at_r rfl) (wear_at ok.c h) ?_
    repeat (first | refine oi ?_ | refine ow ?_ | refine wy ?_ | refine wn ?_ | refine wt ?_ | refine wf' ?_ | refine cy ?_ | refine cn ?_)
    refine load_at hO (Γ.length + 0) (at_r rfl) rfl ?_
    refine opP_i bin_geq ?_
    refine wIf_dec (fun h1 => ?_) (fun h1 => ?_)
    · rw [if_pos h1] at hk
      exact hk _ _ hO hv
    rw [if_neg h1] at hk
    refine step_at ok hO ?_
    clear hO
    intro H hO
    refine opP_i un_not ?_
    rw [Bool.not_not]
    refine wIf_intro (fun h2 => ?_) (fun h2 => ?_)
    · rw [if_pos h2] at hk
      exact hk _ _ hO hv
    rw [if_neg (by rw [h2]; simp)] at hk
    have oks := Dv.step_ok ok
    have hw := (Dv.cellOk ok.c h).w
    repeat (first | refine oi ?_ | refine ow ?_ | refine wy ?_ | refine wn ?_ | refine wt ?_ | refine wf' ?_ | refine cy ?_ | refine cn ?_)
    refine load_at hO (Γ.length + 1) (at_r rfl) (wear_at (d := d.step) oks.c h) ?_
    refine opP_i (bin_addi (by show _ ≤ (d.cell a).wear + 1; omega) (by show (d.cell a).wear + 1 ≤ _; omega)) ?_
    repeat (first | refine oi ?_ | refine ow ?_ | refine wy ?_ | refine wn ?_ | refine wt ?_ | refine wf' ?_ | refine cy ?_ | refine cn ?_)
    refine store_at hO (Γ.length + 1) (at_r rfl) (show ([int ((d.cell a).wear + 1)] : List Value).length = 1 from rfl) (by have := celC_has oks.c (d := d.step) h; show a.toNat * 129 + 128 + 1 ≤ (celC d.step.cells).length; omega) rfl ?_
    clear hO
    intro H hO
    have e1 := set_wear (d := d.step) oks.c h ((d.cell a).wear + 1)
    replace hO : St H (Γ ++ DW pd pc vd (d.step.upd a { d.cell a with wear := (d.cell a).wear + 1 })) := by
      have h3 : St H (Γ ++ ([(pd, ⟨dv pc vd d.step, true⟩), (pc, ⟨(celC d.step.cells).take (a.toNat * 129 + 128) ++ ([int ((d.cell a).wear + 1)] ++ (celC d.step.cells).drop (a.toNat * 129 + 128 + 1)), true⟩)] ++ outB vd (chgC d.done))) := hO.set_r
      have e2 : dv pc vd d.step = dv pc vd (d.step.upd a { d.cell a with wear := (d.cell a).wear + 1 }) := by
        unfold dv
        rw [show (d.step.upd a { d.cell a with wear := (d.cell a).wear + 1 }).cells.length = d.step.cells.length from List.length_set]; rfl
      rw [e1, e2] at h3
      exact h3
    have ok2 : (d.step.upd a { d.cell a with wear := (d.cell a).wear + 1 }).Ok := by
      have hc := Dv.cellOk ok.c h
      have hm := ok.m
      refine Dv.upd_ok oks ⟨hc.k, hc.s, ?_⟩
      show 0 ≤ (d.cell a).wear + 1 ∧ (d.cell a).wear + 1 ≤ 100000
      omega
    refine Blank_spec hO ?_
    clear hO
    intro H hO
    refine set_spec ok2 (Dv.upd_has.2 h) rfl hd hO hv ?_
    clear hO
    intro H vd' hO hv'
    exact hk _ _ hO hv'
  · intro h
    rw [if_pos h] at hk
    refine opP_i (show (binC P .eql 172 true).f _ _ = some (.bool true) from rfl) ?_
    repeat (first | refine oi ?_ | refine ow ?_ | refine wy ?_ | refine wn ?_ | refine wt ?_ | refine wf' ?_ | refine cy ?_ | refine cn ?_)
    exact hk _ _ hO hv
set_option maxHeartbeats 1000000 in
theorem dProgram_spec (ok : d.Ok) (hs : s.length = 64) (hd : d.done.length ≤ 1000000) (hO : St H (Γ ++ DW pd pc vd d)) (hv : OwnD vd d)
    (hk : ∀ H' vd', St H' (Γ ++ DW pd pc vd' (d.program a s).1) → OwnD vd' (d.program a s).1 → K (int (d.program a s).2) H') : wCall P n_flash_Device_Program [ptr pd 0, int a, sec s] H K := by
  apply flash_Device_Program_ok; unfold flash_Device_Program
  unfold Dv.program at hk
  refine new_at hO ?_
  clear hO
  intro p5 H hO
  replace hO : St H ((Γ ++ [(p5, ⟨by8 s, true⟩)]) ++ DW pd pc vd d) := St.rot hO
  have i5 : (Γ ++ [(p5, (⟨by8 s, true⟩ : Blk))])[Γ.length + 0]? = some (p5, ⟨by8 s, true⟩) := at_r rfl
  have fin : ∀ {H : Heap} {Δ : List (Nat × Blk)}, St H ((Γ ++ [(p5, ⟨by8 s, true⟩)]) ++ Δ) → St H (Γ ++ Δ) := fun h => St.mid h
  generalize Γ ++ [(p5, (⟨by8 s, true⟩ : Blk))] = Γ' at hO i5 fin
  refine cell_spec hO (at_r (k := 0) rfl) ?_ ?_
  · intro h
    rw [if_neg (fun h' => h' h)] at hk
    refine opP_i (show (binC P .eql 172 true).f _ _ = some (.bool false) from rfl) ?_
    repeat (first | refine oi ?_ | refine ow ?_ | refine wy ?_ | refine wn ?_ | refine wt ?_ | refine wf' ?_ | refine cy ?_ | refine cn ?_)
    refine load_at hO (Γ'.length + 0) (at_r rfl) rfl ?_
    refine wIf_intro (fun hb => ?_) (fun hb => ?_)
    · rw [if_pos hb] at hk
      exact hk _ _ (fin hO) hv
    rw [if_neg (by rw [hb]; simp)] at hk
    repeat (first | refine oi ?_ | refine ow ?_ | refine wy ?_ | refine wn ?_ | refine wt ?_ | refine wf' ?_ | refine cy ?_ | refine cn ?_)
    refine loadAgg_at hO (Γ'.length + 1) (at_r rfl) (seen_at ok.c h) (by rw [by8_len]; exact (Dv.cellOk ok.c h).s) (by omega) ?_
    refine Blank_spec hO ?_
    intro H2 hO2
    refine ⟨same_at hO (Γ'.length + 1) (at_r rfl) hO2 (Γ'.length + 1) (at_r rfl) (celC_simple _), ?_⟩
    refine opP_i (neS _ (Dv.cellOk ok.c h).s rfl) ?_
    clear hO
    refine wIf_dec (fun h1 => ?_) (fun h1 => ?_)
    · rw [if_pos h1] at hk
      exact hk _ _ (fin hO2) hv
    rw [if_neg h1] at hk
    refine step_at ok hO2 ?_
    clear hO2
    intro H hO
    refine opP_i un_not ?_
    rw [Bool.not_not]
    refine wIf_intro (fun h2 => ?_) (fun h2 => ?_)
    · rw [if_pos h2] at hk
      exact hk _ _ (fin hO) hv
    rw [if_neg (by rw [h2]; simp)] at hk
    refine loadAll_at hO (Γ.length + 0) (at_l i5) (by rw [by8_len]; exact hs) (by omega) ?_
    refine set_spec (Dv.step_ok ok) h hs hd hO hv ?_
    clear hO
    intro H vd' hO hv'
    exact hk _ _ (fin hO) hv'
  · intro h
    rw [if_pos h] at hk
    refine opP_i (show (binC P .eql 172 true).f _ _ = some (.bool true) from rfl) ?_
    repeat (first | refine oi ?_ | refine ow ?_ | refine wy ?_ | refine wn ?_ | refine wt ?_ | refine wf' ?_ | refine cy ?_ | refine cn ?_)
    exact hk _ _ (fin hO) hv
def Dv.limit (d : Dv) (n : Int) : Dv := { d with budget := max n (-1) }
theorem dBudget_spec {n : Int} (hO : St H (Γ ++ DW pd pc vd d)) (hk : ∀ H', St H' (Γ ++ DW pd pc vd (d.limit n)) → K (.tuple [].toArray) H') : wCall P n_flash_Device_Budget [ptr pd 0, int n] H K := by
  apply flash_Device_Budget_ok; unfold flash_Device_Budget
  repeat (first | refine oi ?_ | refine ow ?_ | refine wy ?_ | refine wn ?_ | refine wt ?_ | refine wf' ?_ | refine cy ?_ | refine cn ?_)
  refine store1_at hO (Γ.length + 0) (at_r rfl) rfl (show 3 < 5 by omega) rfl ?_
  intro H hO
  exact hk _ hO.set_r
end J
set_option linter.unusedVariables false
set_option linter.unusedSimpArgs false
set_option maxRecDepth 100000
namespace J
open Go Go.Ab
variable {H : Heap} {Γ : List (Nat × Blk)} {K : Value → Heap → Prop} {v w x : Value} {xs ys : List Int} {j p : Nat} {e : Int}
variable {pd pc : Nat} {vd : Value} {d : Dv} {a : Int} {s : List Int}
def keep1 (cs : List Cell) (x : Nat × List Int) : List Cell := cs.set x.1 { cs.getD x.1 zCell with kept := x.2 }
def keepAll (cs : List Cell) (l : List (Nat × List Int)) : List Cell := l.foldl keep1 cs
theorem keep1_ok {cs : List Cell} {x : Nat × List Int} (h : ∀ c ∈ cs, c.Ok) (hx : x.2.length = 64) (hn : x.1 < cs.length) : ∀ c ∈ keep1 cs x, c.Ok := by
  refine mem_set_ok h ?_
  have : (cs.getD x.1 zCell).Ok := by
    rw [List.getD_eq_getElem?_getD, List.getElem?_eq_getElem hn]; exact h _ (List.getElem_mem hn)
  exact ⟨hx, this.s, this.w⟩
theorem keepAll_len : ∀ (l : List (Nat × List Int)) (cs : List Cell), (keepAll cs l).length = cs.length
  | [], _ => rfl
  | x :: l, cs => by show (keepAll (keep1 cs x) l).length = _; rw [keepAll_len l]; exact List.length_set
theorem keepAll_ok : ∀ (l : List (Nat × List Int)) (cs : List Cell), (∀ c ∈ cs, c.Ok) → (∀ x ∈ l, x.1 < cs.length ∧ x.2.length = 64) → ∀ c ∈ keepAll cs l, c.Ok
  | [], _, h, _ => h
  | x :: l, cs, h, hl => by
    have h1 := hl x List.mem_cons_self
    refine keepAll_ok l (keep1 cs x) (keep1_ok h h1.2 h1.1) ?_
    intro y hy
    show y.1 < (cs.set _ _).length ∧ _
    rw [List.length_set]
    exact hl y (List.mem_cons_of_mem _ hy)
theorem keepAll_snoc {l : List (Nat × List Int)} {x : Nat × List Int} {cs : List Cell} : keepAll cs (l ++ [x]) = keep1 (keepAll cs l) x := by simp [keepAll]
def Dv.sync (d : Dv) : Dv × Int := if d.down = true then (d, 62) else if d.step.down = true then (d.step, 62) else ({ d.step with cells := keepAll d.cells d.done, done := [] }, 0)
theorem Dv.sync_ok (ok : d.Ok) : d.sync.1.Ok := by
  unfold Dv.sync
  split
  · exact ok
  split
  · exact Dv.step_ok ok
  have oks := Dv.step_ok ok
  refine ⟨keepAll_ok _ _ ok.c ok.ds, by show (keepAll _ _).length ≤ _; rw [keepAll_len]; exact ok.n, ?_, oks.m, oks.b⟩
  intro x hx
  cases hx
theorem own_blk {vd : Value} {l : List (Nat × List Int)} (hv : Own 65 vd l.length (chgC l)) {y : Nat} (h : y < l.length) : ∃ p c, vd = sl p 0 l.length c ∧ outB vd (chgC l) = [(p, ⟨chgC l, true⟩)] := by
  rcases hv with ⟨rfl, h0, _⟩ | ⟨p, rfl | rfl, _⟩
  · omega
  · exact ⟨p, _, rfl, rfl⟩
  · exact ⟨p, _, rfl, rfl⟩
theorem chg_at {l : List (Nat × List Int)} (hl : ∀ x ∈ l, x.2.length = 64) {y : Nat} (h : y < l.length) : ((chgC l).drop (y * 65)).take 65 = chg l[y] := by
  have := flat_at (f := chg) (o := 0) (m := 65) (fun c hc => chg_len (hl c hc)) h (by omega)
  unfold chgC
  rw [Nat.add_zero] at this
  rw [this, List.drop_zero]
  exact List.take_of_length_le (Nat.le_of_eq (chg_len (hl _ (List.getElem_mem h))))
theorem getD_cell {l : List Cell} {i : Nat} : l.getD i zCell = ({ d with cells := l } : Dv).cell (i : Int) := by
  unfold Dv.cell
  rw [Int.toNat_natCast]
set_option maxHeartbeats 1000000 in
theorem dSync_spec (ok : d.Ok) (hd : d.done.length ≤ 1000000) (hO : St H (Γ ++ DW pd pc vd d)) (hv : OwnD vd d)
    (hk : ∀ H' vd', St H' (Γ ++ DW pd pc vd' d.sync.1) → OwnD vd' d.sync.1 → K (int d.sync.2) H') : wCall P n_flash_Device_Sync [ptr pd 0] H K := by
  apply flash_Device_Sync_ok; unfold flash_Device_Sync
  unfold Dv.sync at hk
  refine join_with (fun l' H' => l' = [ptr pd 0, int 0] ∧ d.down = false ∧ d.step.down = false ∧ St H' (Γ ++ DW pd pc vd d.step)) ?_ ?_
  · repeat (first | refine oi ?_ | refine ow ?_ | refine wy ?_ | refine wn ?_ | refine wt ?_ | refine wf' ?_ | refine cy ?_ | refine cn ?_)
    refine load_at hO (Γ.length + 0) (at_r rfl) rfl ?_
    cases hb : d.down with
    | true =>
      rw [if_pos hb] at hk
      repeat (first | refine oi ?_ | refine ow ?_ | refine wy ?_ | refine wn ?_ | refine wt ?_ | refine wf' ?_ | refine cy ?_ | refine cn ?_)
      exact hk _ _ hO hv
    | false =>
      rw [if_neg (by rw [hb]; simp)] at hk
      refine wIf_f rfl ?_
      refine step_at ok hO ?_
      clear hO
      intro H hO
      refine opP_i un_not ?_
      refine opP_i pick_false ?_
      rw [Bool.not_not]
      refine wIf_intro (fun h2 => ?_) (fun h2 => ?_)
      · rw [if_pos h2] at hk
        exact hk _ _ hO hv
      · exact ⟨rfl, rfl, h2, hO⟩
  clear hO
  rintro l' H ⟨rfl, hb, h2, hO⟩
  rw [if_neg (by rw [hb]; simp), if_neg (by rw [h2]; simp)] at hk
  try simp only [nth_zero, nth_succ]
  repeat (first | refine oi ?_ | refine ow ?_ | refine wy ?_ | refine wn ?_ | refine wt ?_ | refine wf' ?_ | refine cy ?_ | refine cn ?_)
  refine load_at hO (Γ.length + 0) (at_r rfl) rfl ?_
  refine opW_i hv.lenSl ?_
  have oks := Dv.step_ok ok
  have hds : ∀ x ∈ d.done, x.2.length = 64 := fun x hx => (ok.ds x hx).2
  refine flash_Device_Sync_L0_ind (fun k l' H' => ∃ y : Nat, y ≤ d.done.length ∧ k = d.done.length - y ∧ l' = [ptr pd 0, int 0, vd, int d.done.length, int y] ∧ St H' (Γ ++ DW pd pc vd { d.step with cells := keepAll d.cells (d.done.take y) })) _ _ ?_ d.done.length _ _ ⟨0, by omega, rfl, rfl, hO⟩
  clear hO
  rintro k l' H' ⟨y, hy, rfl, rfl, hO⟩
  unfold flash_Device_Sync_L0
  try simp only [nth_zero, nth_succ]
  repeat (first | refine oi ?_ | refine ow ?_ | refine wy ?_ | refine wn ?_ | refine wt ?_ | refine wf' ?_ | refine cy ?_ | refine cn ?_)
  refine wIf_dec (fun h => ?_) (fun h => ?_)
  · have hyl : y < d.done.length := by omega
    obtain ⟨p, c, e1, e2⟩ := own_blk hv hyl
    have hx := ok.ds _ (List.getElem_mem hyl)
    have i2 : (DW pd pc vd { d.step with cells := keepAll d.cells (d.done.take y) })[2]? = some (p, ⟨chgC d.done, true⟩) := by
      show ([_, _] ++ outB vd (chgC d.done))[2]? = _
      rw [e2]; rfl
    rw [e1]
    refine opP_i (idxSl_ok (by omega) (by omega)) ?_
    rw [show 0 + ((y : Nat) : Int).toNat * 65 = y * 65 by rw [Int.toNat_natCast]; omega]
    rw [← e1]
    refine loadAgg_at hO (Γ.length + 2) (at_r i2) (chg_at hds hyl) (chg_len hx.2) (by omega) ?_
    rw [zcChg]
    refine new_at hO ?_
    clear hO
    intro p4 H hO
    refine storeAll_at hO ((Γ ++ DW pd pc vd { d.step with cells := keepAll d.cells (d.done.take y) }).length + 0) (at_r rfl) (by simp [by8_len, zeros]) (chg_len hx.2) (chg_one _) ?_
    clear hO
    intro H hO
    replace hO := St.rot hO.set_r
    replace hO : St H ((Γ ++ [(p4, ⟨chg d.done[y], true⟩)]) ++ DW pd pc vd { d.step with cells := keepAll d.cells (d.done.take y) }) := hO
    have i4 : (Γ ++ [(p4, (⟨chg d.done[y], true⟩ : Blk))])[Γ.length + 0]? = some (p4, ⟨chg d.done[y], true⟩) := at_r rfl
    have fin : ∀ {H : Heap} {Δ : List (Nat × Blk)}, St H ((Γ ++ [(p4, ⟨chg d.done[y], true⟩)]) ++ Δ) → St H (Γ ++ Δ) := fun h => St.mid h
    generalize Γ ++ [(p4, (⟨chg d.done[y], true⟩ : Blk))] = Γ' at hO i4 fin
    repeat (first | refine oi ?_ | refine ow ?_ | refine wy ?_ | refine wn ?_ | refine wt ?_ | refine wf' ?_ | refine cy ?_ | refine cn ?_)
    refine load_at hO (Γ'.length + 0) (at_r rfl) rfl ?_
    repeat (first | refine oi ?_ | refine ow ?_ | refine wy ?_ | refine wn ?_ | refine wt ?_ | refine wf' ?_ | refine cy ?_ | refine cn ?_)
    refine load_at hO (Γ.length + 0) (at_l i4) rfl ?_
    repeat (first | refine oi ?_ | refine ow ?_ | refine wy ?_ | refine wn ?_ | refine wt ?_ | refine wf' ?_ | refine cy ?_ | refine cn ?_)
    refine loadAgg_at hO (Γ.length + 0) (at_l i4) (show ((chg d.done[y]).drop 1).take 64 = by8 d.done[y].2 from ?_) (by rw [by8_len]; exact hx.2) (by omega) ?_
    · show (by8 d.done[y].2).take 64 = _
      exact List.take_of_length_le (by rw [by8_len, hx.2]; exact Nat.le_refl _)
    have hh : ({ d.step with cells := keepAll d.cells (d.done.take y) } : Dv).has (d.done[y].1 : Int) := ⟨by omega, by
      show _ < ((keepAll d.cells (d.done.take y)).length : Int)
      rw [keepAll_len]; omega⟩
    have ok2 : ∀ c ∈ keepAll d.cells (d.done.take y), c.Ok := keepAll_ok _ _ ok.c (fun x hx => ok.ds x (List.mem_of_mem_take hx))
    refine opP_i (idxSl_ok hh.1 hh.2) ?_
    repeat (first | refine oi ?_ | refine ow ?_ | refine wy ?_ | refine wn ?_ | refine wt ?_ | refine wf' ?_ | refine cy ?_ | refine cn ?_)
    rw [Nat.zero_add]
    refine store_at hO (Γ'.length + 1) (at_r rfl) (show (by8 d.done[y].2).length = 64 by rw [by8_len]; exact hx.2) (by have := celC_has ok2 (d := { d.step with cells := keepAll d.cells (d.done.take y) }) hh; show _ ≤ (celC (keepAll d.cells (d.done.take y))).length; simp only at this; omega) (by8_one _) ?_
    clear hO
    intro H hO
    have e3 := set_kept (d := { d.step with cells := keepAll d.cells (d.done.take y) }) ok2 hh hx.2
    rw [by8_len, hx.2] at e3
    replace hO : St H (Γ' ++ DW pd pc vd { d.step with cells := keepAll d.cells (d.done.take (y + 1)) }) := by
      have h3 : St H (Γ' ++ ([(pd, ⟨dv pc vd { d.step with cells := keepAll d.cells (d.done.take y) }, true⟩), (pc, ⟨(celC (keepAll d.cells (d.done.take y))).take ((d.done[y].1 : Int).toNat * 129 + 0) ++ (by8 d.done[y].2 ++ (celC (keepAll d.cells (d.done.take y))).drop ((d.done[y].1 : Int).toNat * 129 + 0 + 64)), true⟩)] ++ outB vd (chgC d.done))) := hO.set_r
      rw [e3] at h3
      have e4 : keepAll d.cells (d.done.take (y + 1)) = (keepAll d.cells (d.done.take y)).set (d.done[y].1 : Int).toNat { ({ d.step with cells := keepAll d.cells (d.done.take y) } : Dv).cell (d.done[y].1 : Int) with kept := d.done[y].2 } := by
        rw [List.take_succ_eq_append_getElem hyl, keepAll_snoc]
        unfold keep1
        rw [getD_cell (d := d.step), Int.toNat_natCast]
      show St H (Γ' ++ ([(pd, ⟨[sl pc 0 (keepAll d.cells (d.done.take (y + 1))).length 259, vd, int d.step.most, int d.step.budget, .bool d.step.down], true⟩), (pc, ⟨celC (keepAll d.cells (d.done.take (y + 1))), true⟩)] ++ outB vd (chgC d.done)))
      rw [keepAll_len, e4]
      have h4 : St H (Γ' ++ ([(pd, ⟨[sl pc 0 (keepAll d.cells (d.done.take y)).length 259, vd, int d.step.most, int d.step.budget, .bool d.step.down], true⟩), (pc, ⟨celC ((keepAll d.cells (d.done.take y)).set (d.done[y].1 : Int).toNat { ({ d.step with cells := keepAll d.cells (d.done.take y) } : Dv).cell (d.done[y].1 : Int) with kept := d.done[y].2 }), true⟩)] ++ outB vd (chgC d.done))) := h3
      rw [keepAll_len] at h4
      exact h4
    repeat (first | refine oi ?_ | refine ow ?_ | refine wy ?_ | refine wn ?_ | refine wt ?_ | refine wf' ?_ | refine cy ?_ | refine cn ?_)
    exact ⟨_, by omega, y + 1, by omega, rfl, rfl, fin hO⟩
  · have ey : y = d.done.length := by omega
    subst ey
    repeat (first | refine oi ?_ | refine ow ?_ | refine wy ?_ | refine wn ?_ | refine wt ?_ | refine wf' ?_ | refine cy ?_ | refine cn ?_)
    refine store1_at hO (Γ.length + 0) (at_r rfl) rfl (show 1 < 5 by omega) rfl ?_
    clear hO
    intro H hO
    rw [List.take_length] at hO
    refine hk _ nilSl ?_ (.inl ⟨rfl, rfl, rfl⟩)
    have h3 : St H (Γ ++ ([(pd, ⟨dv pc nilSl { d.step with cells := keepAll d.cells d.done, done := [] }, true⟩), (pc, ⟨celC (keepAll d.cells d.done), true⟩)] ++ outB vd (chgC d.done))) := hO.set_r
    exact h3.sub (List.Sublist.append (List.Sublist.refl _) (List.Sublist.append (List.Sublist.refl _) (List.nil_sublist _)))
end J
set_option linter.unusedVariables false
set_option linter.unusedSimpArgs false
set_option maxRecDepth 100000
namespace J
open Go Go.Ab
variable {H : Heap} {Γ : List (Nat × Blk)} {K : Value → Heap → Prop} {v w x : Value} {xs ys : List Int} {j p : Nat} {e : Int}
variable {pd pc : Nat} {vd : Value} {d : Dv} {a : Int} {s : List Int}
theorem copy_by [lp : LpC] {o n c i q : Nat} {cs : List Value} {K : Value → Heap → Prop} (hO : St H Γ) (hi : Γ[i]? = some (q, ⟨cs, true⟩)) (hv : RdB Γ v ys) (hn : ys.length ≤ n) (hl : o + n ≤ cs.length)
    (hk : ∀ H', St H' (Γ.set i (q, ⟨cs.take o ++ (by8 ys ++ cs.drop (o + ys.length)), true⟩)) → K (int ys.length) H') : opW (copyTo 1 (sl q o n c) v H) K := by
  obtain ⟨H', hw, hs⟩ := write_at hO (o := o) (vs := by8 ys) hi (by simp; omega) (by simp [oneCell])
  unfold copyTo
  simp only [hv.lenA]
  have hm : Nat.min ys.length n = ys.length := Nat.min_eq_left hn
  rw [hm]
  by_cases h0 : ys.length = 0
  · have : ys = [] := List.length_eq_zero_iff.1 h0
    subst this
    refine opW_i (show some (Value.int .i64 0, H) = _ from rfl) ?_
    have hk := hk H
    rw [show cs.take o ++ (by8 [] ++ cs.drop (o + ([] : List Int).length)) = cs by simp [by8], set_same hi] at hk
    exact hk hO
  · have hb : Nat.beq ys.length 0 = false := by
      cases hb : Nat.beq ys.length 0 with
      | false => rfl
      | true => exact absurd (Nat.eq_of_beq_eq_true hb) h0
    rw [hb]
    simp only [Bool.false_eq_true, if_false]
    rw [hv.elems hO]
    simp only
    rw [hw]
    refine opW_i (show some (Value.int .i64 ((ys.length : Nat) : Int), H') = _ from rfl) ?_
    rw [List.length_map] at hs
    exact hk _ hs
theorem slice_arrh {p o n : Nat} {b : Blk} {h : Int} (hO : St H Γ) (i : Nat) (hi : Γ[i]? = some (p, b)) (hp : 0 < n) (hn : o + n ≤ b.cells.length) (h0 : 0 ≤ h) (h1 : h ≤ n) : ∃ c, sliceArr n 1 (ptr p o) none (some (int h)) none H = some (sl p o h.toNat c) ∧ (c = 2 ∨ c = 3) := by
  obtain ⟨m, rfl⟩ : ∃ m : Nat, h = m := ⟨h.toNat, by omega⟩
  have hb : boundHi n (some (int (m : Int))) = some m := by
    show (match leB 0 (m : Int) with | true => (match Nat.ble (m : Int).toNat n with | true => some (m : Int).toNat | false => none) | false => none) = _
    rw [leB_eq, decide_eq_true (by omega)]
    simp only [Int.toNat_natCast]
    rw [Nat.ble_eq_true_of_le (by omega)]
  refine ⟨cond (Nat.beq m n) 3 2, ?_, by cases Nat.beq m n <;> simp⟩
  unfold sliceArr
  simp only [hO.at i hi (.inr (by intro h; rw [h] at hn; simp at hn; omega)), lenN_eq]
  rw [Nat.ble_eq_true_of_le (by omega)]
  simp only [hb]
  simp [boundLo, maxOk, reslice]
def tear1 (cs : List Cell) (x : Nat × List Int) (k : Int) : List Cell := cs.set x.1 { cs.getD x.1 zCell with kept := x.2.take (min k.toNat 64) ++ (cs.getD x.1 zCell).kept.drop (min k.toNat 64) }
def tearAll (cs : List Cell) (l : List ((Nat × List Int) × Int)) : List Cell := l.foldl (fun cs z => tear1 cs z.1 z.2) cs
def see1 (cs : List Cell) (x : Nat × List Int) : List Cell := cs.set x.1 { cs.getD x.1 zCell with seen := (cs.getD x.1 zCell).kept }
def seeAll (cs : List Cell) (l : List (Nat × List Int)) : List Cell := l.foldl see1 cs
theorem tear1_len {cs : List Cell} {x : Nat × List Int} {k : Int} : (tear1 cs x k).length = cs.length := List.length_set
theorem see1_len {cs : List Cell} {x : Nat × List Int} : (see1 cs x).length = cs.length := List.length_set
theorem tearAll_len : ∀ (l : List ((Nat × List Int) × Int)) (cs : List Cell), (tearAll cs l).length = cs.length
  | [], _ => rfl
  | x :: l, cs => by show (tearAll (tear1 cs x.1 x.2) l).length = _; rw [tearAll_len l, tear1_len]
theorem seeAll_len : ∀ (l : List (Nat × List Int)) (cs : List Cell), (seeAll cs l).length = cs.length
  | [], _ => rfl
  | x :: l, cs => by show (seeAll (see1 cs x) l).length = _; rw [seeAll_len l, see1_len]
theorem getD_ok {cs : List Cell} {n : Nat} (h : ∀ c ∈ cs, c.Ok) (hn : n < cs.length) : (cs.getD n zCell).Ok := by
  rw [List.getD_eq_getElem?_getD, List.getElem?_eq_getElem hn]; exact h _ (List.getElem_mem hn)
theorem tear1_ok {cs : List Cell} {x : Nat × List Int} {k : Int} (h : ∀ c ∈ cs, c.Ok) (hx : x.1 < cs.length ∧ x.2.length = 64) : ∀ c ∈ tear1 cs x k, c.Ok := by
  have := getD_ok h hx.1
  refine mem_set_ok h ⟨?_, this.s, this.w⟩
  show (x.2.take _ ++ (List.drop _ _)).length = 64
  rw [List.length_append, List.length_take, List.length_drop, this.k, hx.2]; omega
theorem see1_ok {cs : List Cell} {x : Nat × List Int} (h : ∀ c ∈ cs, c.Ok) (hx : x.1 < cs.length) : ∀ c ∈ see1 cs x, c.Ok := by
  have := getD_ok h hx
  exact mem_set_ok h ⟨this.k, this.k, this.w⟩
theorem tearAll_ok : ∀ (l : List ((Nat × List Int) × Int)) (cs : List Cell), (∀ c ∈ cs, c.Ok) → (∀ x ∈ l, x.1.1 < cs.length ∧ x.1.2.length = 64) → ∀ c ∈ tearAll cs l, c.Ok
  | [], _, h, _ => h
  | x :: l, cs, h, hl => tearAll_ok l (tear1 cs x.1 x.2) (tear1_ok h (hl x List.mem_cons_self)) (by
      intro y hy
      rw [tear1_len]
      exact hl y (List.mem_cons_of_mem _ hy))
theorem seeAll_ok : ∀ (l : List (Nat × List Int)) (cs : List Cell), (∀ c ∈ cs, c.Ok) → (∀ x ∈ l, x.1 < cs.length) → ∀ c ∈ seeAll cs l, c.Ok
  | [], _, h, _ => h
  | x :: l, cs, h, hl => seeAll_ok l (see1 cs x) (see1_ok h (hl x List.mem_cons_self)) (by
      intro y hy
      rw [see1_len]
      exact hl y (List.mem_cons_of_mem _ hy))
def Dv.restart (d : Dv) (ks : List Int) : Dv := { d with cells := seeAll (tearAll d.cells (d.done.zip ks)) d.done, done := [], budget := -1, down := false }
theorem zip_ok {l : List (Nat × List Int)} {ks : List Int} {n : Nat} (h : ∀ x ∈ l, x.1 < n ∧ x.2.length = 64) : ∀ x ∈ l.zip ks, x.1.1 < n ∧ x.1.2.length = 64 := fun x hx => h x.1 (List.of_mem_zip hx).1
theorem Dv.restart_ok (ok : d.Ok) (ks : List Int) : (d.restart ks).Ok := by
  have h1 := tearAll_ok _ _ ok.c (zip_ok (ks := ks) ok.ds)
  refine ⟨seeAll_ok _ _ h1 (fun x hx => by rw [tearAll_len]; exact (ok.ds x hx).1), by show (seeAll _ _).length ≤ _; rw [seeAll_len, tearAll_len]; exact ok.n, ?_, ok.m, ?_⟩
  · intro x hx; cases hx
  · show -1 ≤ (-1 : Int) ∧ (-1 : Int) ≤ _; omega
theorem dw_cells {Γ' : List (Nat × Blk)} {d d' : Dv} {cs : List Value} (hO : St H ((Γ' ++ DW pd pc vd d).set (Γ'.length + 1) (pc, ⟨cs, true⟩))) (hc : cs = celC d'.cells) (hl : d'.cells.length = d.cells.length) (h1 : d'.done = d.done) (h2 : d'.most = d.most) (h3 : d'.budget = d.budget) (h4 : d'.down = d.down) : St H (Γ' ++ DW pd pc vd d') := by
  have h5 : St H (Γ' ++ ([(pd, ⟨dv pc vd d, true⟩), (pc, ⟨cs, true⟩)] ++ outB vd (chgC d.done))) := hO.set_r
  have e : dv pc vd d = dv pc vd d' := by unfold dv; rw [hl, h2, h3, h4]
  rw [hc, e, ← h1] at h5
  exact h5
set_option maxHeartbeats 2000000 in
theorem dRestart_spec {ks : List Int} (ok : d.Ok) (hd : d.done.length ≤ 1000000) (hO : St H (Γ ++ DW pd pc vd d)) (hv : OwnD vd d) (hw : RdB Γ w ks) (hb : ∀ k ∈ ks, 0 ≤ k ∧ k ≤ 255)
    (hk : ∀ H', St H' (Γ ++ DW pd pc nilSl (d.restart ks)) → K (.tuple [].toArray) H') : wCall P n_flash_Device_Restart [ptr pd 0, w] H K := by
  apply flash_Device_Restart_ok; unfold flash_Device_Restart
  repeat (first | refine oi ?_ | refine ow ?_ | refine wy ?_ | refine wn ?_ | refine wt ?_ | refine wf' ?_ | refine cy ?_ | refine cn ?_)
  refine load_at hO (Γ.length + 0) (at_r rfl) rfl ?_
  refine opW_i hv.lenSl ?_
  have hds : ∀ x ∈ d.done, x.2.length = 64 := fun x hx => (ok.ds x hx).2
  have hz := zip_ok (ks := ks) ok.ds
  refine flash_Device_Restart_L0_ind (fun k l' H' => ∃ y : Nat, y ≤ d.done.length ∧ k = d.done.length - y ∧ l' = [ptr pd 0, w, vd, int d.done.length, int y] ∧ St H' (Γ ++ DW pd pc vd { d with cells := tearAll d.cells ((d.done.zip ks).take y) })) _ _ ?_ d.done.length _ _ ⟨0, by omega, rfl, rfl, hO⟩
  clear hO
  rintro k l' H' ⟨y, hy, rfl, rfl, hO⟩
  unfold flash_Device_Restart_L0
  try simp only [nth_zero, nth_succ]
  repeat (first | refine oi ?_ | refine ow ?_ | refine wy ?_ | refine wn ?_ | refine wt ?_ | refine wf' ?_ | refine cy ?_ | refine cn ?_)
  refine wIf_dec (fun h => ?_) (fun h => ?_)
  · have hyl : y < d.done.length := by omega
    obtain ⟨p, c, e1, e2⟩ := own_blk hv hyl
    have hx := ok.ds _ (List.getElem_mem hyl)
    generalize hD : ({ d with cells := tearAll d.cells ((d.done.zip ks).take y) } : Dv) = D at *
    have hDd : D.done = d.done := by rw [← hD]
    have hDc : D.cells = tearAll d.cells ((d.done.zip ks).take y) := by rw [← hD]
    have i2 : (DW pd pc vd D)[2]? = some (p, ⟨chgC d.done, true⟩) := by
      show ([_, _] ++ outB vd (chgC D.done))[2]? = _
      rw [hDd, e2]; rfl
    rw [e1]
    refine opP_i (idxSl_ok (by omega) (by omega)) ?_
    rw [show 0 + ((y : Nat) : Int).toNat * 65 = y * 65 by rw [Int.toNat_natCast]; omega]
    rw [← e1]
    refine loadAgg_at hO (Γ.length + 2) (at_r i2) (chg_at hds hyl) (chg_len hx.2) (by omega) ?_
    rw [zcChg]
    refine new_at hO ?_
    clear hO
    intro p4 H hO
    refine storeAll_at hO ((Γ ++ DW pd pc vd D).length + 0) (at_r rfl) (by simp [by8_len, zeros]) (chg_len hx.2) (chg_one _) ?_
    clear hO
    intro H hO
    replace hO := St.rot hO.set_r
    replace hO : St H ((Γ ++ [(p4, ⟨chg d.done[y], true⟩)]) ++ DW pd pc vd D) := hO
    have i4 : (Γ ++ [(p4, (⟨chg d.done[y], true⟩ : Blk))])[Γ.length + 0]? = some (p4, ⟨chg d.done[y], true⟩) := at_r rfl
    have fin : ∀ {H : Heap} {Δ : List (Nat × Blk)}, St H ((Γ ++ [(p4, ⟨chg d.done[y], true⟩)]) ++ Δ) → St H (Γ ++ Δ) := fun h => St.mid h
    have hw' := hw.app (Δ := [(p4, (⟨chg d.done[y], true⟩ : Blk))])
    generalize Γ ++ [(p4, (⟨chg d.done[y], true⟩ : Blk))] = Γ' at hO i4 fin hw'
    refine opW_i hw.lenSl ?_
    repeat (first | refine oi ?_ | refine ow ?_ | refine wy ?_ | refine wn ?_ | refine wt ?_ | refine wf' ?_ | refine cy ?_ | refine cn ?_)
    refine wIf_dec (fun h2 => ?_) (fun h2 => ?_)
    · have hyk : y < ks.length := by omega
      have hkb := hb _ (List.getElem_mem hyk)
      have hyz : y < (d.done.zip ks).length := by rw [List.length_zip]; omega
      obtain ⟨p6, o6, c6, j6, b6, rfl, h61, h62⟩ := hw'.at hyk
      refine opP_i (idxSl_ok (by omega) (by omega)) ?_
      refine load_at hO j6 (at_l h61) (v := .int .u8 ks[y]) (by simpa using h62) ?_
      refine opW_i (cvInt_i (by omega) (by omega)) ?_
      repeat (first | refine oi ?_ | refine ow ?_ | refine wy ?_ | refine wn ?_ | refine wt ?_ | refine wf' ?_ | refine cy ?_ | refine cn ?_)
      refine load_at hO (Γ'.length + 0) (at_r rfl) rfl ?_
      repeat (first | refine oi ?_ | refine ow ?_ | refine wy ?_ | refine wn ?_ | refine wt ?_ | refine wf' ?_ | refine cy ?_ | refine cn ?_)
      refine load_at hO (Γ.length + 0) (at_l i4) rfl ?_
      have hh : D.has (d.done[y].1 : Int) := ⟨by omega, by rw [hDc, tearAll_len]; omega⟩
      have ok2 : ∀ c ∈ D.cells, c.Ok := by rw [hDc]; exact tearAll_ok _ _ ok.c (fun x hx => hz x (List.mem_of_mem_take hx))
      have hcl := celC_has ok2 hh
      refine opP_i (idxSl_ok hh.1 hh.2) ?_
      repeat (first | refine oi ?_ | refine ow ?_ | refine wy ?_ | refine wn ?_ | refine wt ?_ | refine wf' ?_ | refine cy ?_ | refine cn ?_)
      rw [Nat.zero_add]
      have hm : (min ks[y] 64).toNat = min ks[y].toNat 64 := by omega
      obtain ⟨c1, e3, _⟩ := slice_arrh (n := 64) (p := pc) (o := (d.done[y].1 : Int).toNat * 129 + 0) (h := min ks[y] 64) hO (Γ'.length + 1) (at_r rfl) (by omega) (by show _ ≤ (celC D.cells).length; omega) (by omega) (by omega)
      refine opP_i e3 ?_
      refine opP_i offPtr_ptr ?_
      obtain ⟨c2, e4, hc2⟩ := slice_arrh (n := 64) (p := p4) (o := 0 + 1) (h := min ks[y] 64) hO (Γ.length + 0) (at_l i4) (by omega) (by show _ ≤ (chg d.done[y]).length; rw [chg_len hx.2]; omega) (by omega) (by omega)
      refine opP_i e4 ?_
      have hr : RdB (Γ' ++ DW pd pc vd D) (sl p4 (0 + 1) (min ks[y] 64).toNat c2) (d.done[y].2.take (min ks[y].toNat 64)) := by
        refine .inr ⟨p4, 0 + 1, c2, ?_, hc2, .inr ⟨Γ.length + 0, ⟨chg d.done[y], true⟩, at_l i4, ?_⟩⟩
        · rw [List.length_take, hx.2, hm]; congr 1; omega
        · show ((by8 d.done[y].2).take _) = _
          rw [List.length_take, hx.2, show min (min ks[y].toNat 64) 64 = min ks[y].toNat 64 by omega]
          simp [by8, List.map_take]
      have hl2 : (d.done[y].2.take (min ks[y].toNat 64)).length = min ks[y].toNat 64 := by rw [List.length_take, hx.2]; omega
      refine copy_by hO (i := Γ'.length + 1) (at_r rfl) hr (by rw [hl2, hm]; exact Nat.le_refl _) (by show _ ≤ (celC D.cells).length; omega) ?_
      clear hO
      intro H hO
      rw [hl2] at hO
      repeat (first | refine oi ?_ | refine ow ?_ | refine wy ?_ | refine wn ?_ | refine wt ?_ | refine wf' ?_ | refine cy ?_ | refine cn ?_)
      refine ⟨_, by omega, y + 1, by omega, rfl, rfl, fin (dw_cells hO ?_ ?_ ?_ ?_ ?_ ?_)⟩
      · show _ = celC (tearAll d.cells ((d.done.zip ks).take (y + 1)))
        rw [List.take_succ_eq_append_getElem hyz]
        unfold tearAll
        rw [List.foldl_append]
        show _ = celC (tear1 (tearAll d.cells ((d.done.zip ks).take y)) ((d.done.zip ks)[y]).1 ((d.done.zip ks)[y]).2)
        rw [List.getElem_zip, ← hDc]
        show _ = celC (tear1 D.cells d.done[y] ks[y])
        unfold tear1
        rw [show D.cells.getD d.done[y].1 zCell = D.cell (d.done[y].1 : Int) by unfold Dv.cell; rw [Int.toNat_natCast]]
        have hck := Dv.cellOk ok2 hh
        have e5 := set_kept (d := D) (s := d.done[y].2.take (min ks[y].toNat 64) ++ (D.cell (d.done[y].1 : Int)).kept.drop (min ks[y].toNat 64)) ok2 hh (by rw [List.length_append, hl2, List.length_drop, hck.k]; omega)
        have e6 : (d.done[y].1 : Int).toNat = d.done[y].1 := Int.toNat_natCast _
        rw [e6] at e5 ⊢
        rw [← e5]
        congr 1
        have e7 := kept_at ok2 hh
        rw [e6] at e7
        rw [by8_len, List.length_append, hl2, List.length_drop, hck.k]
        have e8 : by8 (d.done[y].2.take (min ks[y].toNat 64) ++ (D.cell (d.done[y].1 : Int)).kept.drop (min ks[y].toNat 64)) = by8 (d.done[y].2.take (min ks[y].toNat 64)) ++ (by8 (D.cell (d.done[y].1 : Int)).kept).drop (min ks[y].toNat 64) := by simp [by8, List.map_drop]
        rw [e8, List.append_assoc]
        congr 1
        rw [← e7, List.drop_take]
        rw [List.drop_drop]
        generalize hq : d.done[y].1 * 129 + 0 = q
        have e9 : (celC D.cells).drop (q + min ks[y].toNat 64) = ((celC D.cells).drop (q + min ks[y].toNat 64)).take (64 - min ks[y].toNat 64) ++ (celC D.cells).drop (q + (min ks[y].toNat 64 + (64 - min ks[y].toNat 64))) := by
          conv => lhs; rw [← List.take_append_drop (64 - min ks[y].toNat 64) ((celC D.cells).drop (q + min ks[y].toNat 64))]
          rw [List.drop_drop, Nat.add_assoc]
        exact e9
      · show (tearAll _ _).length = _
        rw [hDc, tearAll_len, tearAll_len]
      · exact hDd.symm
      · rw [← hD]
      · rw [← hD]
      · rw [← hD]
    · have hyk : ¬ y < ks.length := by omega
      repeat (first | refine oi ?_ | refine ow ?_ | refine wy ?_ | refine wn ?_ | refine wt ?_ | refine wf' ?_ | refine cy ?_ | refine cn ?_)
      refine ⟨_, by omega, y + 1, by omega, rfl, rfl, fin ?_⟩
      have e5 : (d.done.zip ks).take (y + 1) = (d.done.zip ks).take y := by
        rw [List.take_of_length_le (by rw [List.length_zip]; omega), List.take_of_length_le (by rw [List.length_zip]; omega)]
      rw [e5, hD]
      exact hO
  · have ey : y = d.done.length := by omega
    subst ey
    rw [List.take_of_length_le (by rw [List.length_zip]; omega)] at hO
    repeat (first | refine oi ?_ | refine ow ?_ | refine wy ?_ | refine wn ?_ | refine wt ?_ | refine wf' ?_ | refine cy ?_ | refine cn ?_)
    generalize hC : tearAll d.cells (d.done.zip ks) = C at *
    have okC : ∀ c ∈ C, c.Ok := by rw [← hC]; exact tearAll_ok _ _ ok.c hz
    have hCl : C.length = d.cells.length := by rw [← hC, tearAll_len]
    refine load_at hO (Γ.length + 0) (at_r rfl) rfl ?_
    refine opW_i hv.lenSl ?_
    refine flash_Device_Restart_L1_ind (fun k l' H' => ∃ y : Nat, y ≤ d.done.length ∧ k = d.done.length - y ∧ l' = [ptr pd 0, vd, int d.done.length, int y] ∧ St H' (Γ ++ DW pd pc vd { d with cells := seeAll C (d.done.take y) })) _ _ ?_ d.done.length _ _ ⟨0, by omega, rfl, rfl, hO⟩
    clear hO
    rintro k l' H' ⟨y, hy, rfl, rfl, hO⟩
    unfold flash_Device_Restart_L1
    try simp only [nth_zero, nth_succ]
    repeat (first | refine oi ?_ | refine ow ?_ | refine wy ?_ | refine wn ?_ | refine wt ?_ | refine wf' ?_ | refine cy ?_ | refine cn ?_)
    refine wIf_dec (fun h => ?_) (fun h => ?_)
    · have hyl : y < d.done.length := by omega
      obtain ⟨p, c, e1, e2⟩ := own_blk hv hyl
      have hx := ok.ds _ (List.getElem_mem hyl)
      generalize hD : ({ d with cells := seeAll C (d.done.take y) } : Dv) = D at *
      have hDd : D.done = d.done := by rw [← hD]
      have hDc : D.cells = seeAll C (d.done.take y) := by rw [← hD]
      have i2 : (DW pd pc vd D)[2]? = some (p, ⟨chgC d.done, true⟩) := by
        show ([_, _] ++ outB vd (chgC D.done))[2]? = _
        rw [hDd, e2]; rfl
      rw [e1]
      refine opP_i (idxSl_ok (by omega) (by omega)) ?_
      rw [show 0 + ((y : Nat) : Int).toNat * 65 = y * 65 by rw [Int.toNat_natCast]; omega]
      rw [← e1]
      refine loadAgg_at hO (Γ.length + 2) (at_r i2) (chg_at hds hyl) (chg_len hx.2) (by omega) ?_
      rw [zcChg]
      refine new_at hO ?_
      clear hO
      intro p4 H hO
      refine storeAll_at hO ((Γ ++ DW pd pc vd D).length + 0) (at_r rfl) (by simp [by8_len, zeros]) (chg_len hx.2) (chg_one _) ?_
      clear hO
      intro H hO
      replace hO := St.rot hO.set_r
      replace hO : St H ((Γ ++ [(p4, ⟨chg d.done[y], true⟩)]) ++ DW pd pc vd D) := hO
      have i4 : (Γ ++ [(p4, (⟨chg d.done[y], true⟩ : Blk))])[Γ.length + 0]? = some (p4, ⟨chg d.done[y], true⟩) := at_r rfl
      have fin : ∀ {H : Heap} {Δ : List (Nat × Blk)}, St H ((Γ ++ [(p4, ⟨chg d.done[y], true⟩)]) ++ Δ) → St H (Γ ++ Δ) := fun h => St.mid h
      generalize Γ ++ [(p4, (⟨chg d.done[y], true⟩ : Blk))] = Γ' at hO i4 fin
      repeat (first | refine oi ?_ | refine ow ?_ | refine wy ?_ | refine wn ?_ | refine wt ?_ | refine wf' ?_ | refine cy ?_ | refine cn ?_)
      refine load_at hO (Γ'.length + 0) (at_r rfl) rfl ?_
      repeat (first | refine oi ?_ | refine ow ?_ | refine wy ?_ | refine wn ?_ | refine wt ?_ | refine wf' ?_ | refine cy ?_ | refine cn ?_)
      refine load_at hO (Γ.length + 0) (at_l i4) rfl ?_
      repeat (first | refine oi ?_ | refine ow ?_ | refine wy ?_ | refine wn ?_ | refine wt ?_ | refine wf' ?_ | refine cy ?_ | refine cn ?_)
      refine load_at hO (Γ'.length + 0) (at_r rfl) rfl ?_
      repeat (first | refine oi ?_ | refine ow ?_ | refine wy ?_ | refine wn ?_ | refine wt ?_ | refine wf' ?_ | refine cy ?_ | refine cn ?_)
      refine load_at hO (Γ.length + 0) (at_l i4) rfl ?_
      have hh : D.has (d.done[y].1 : Int) := ⟨by omega, by rw [hDc, seeAll_len, hCl]; omega⟩
      have ok2 : ∀ c ∈ D.cells, c.Ok := by rw [hDc]; exact seeAll_ok _ _ okC (fun x hx => by rw [hCl]; exact (ok.ds x (List.mem_of_mem_take hx)).1)
      have hcl := celC_has ok2 hh
      have hck := Dv.cellOk ok2 hh
      refine opP_i (idxSl_ok hh.1 hh.2) ?_
      refine opP_i offPtr_ptr ?_
      rw [Nat.zero_add]
      refine loadAgg_at hO (Γ'.length + 1) (at_r rfl) (kept_at ok2 hh) (by rw [by8_len]; exact hck.k) (by omega) ?_
      refine opP_i (idxSl_ok hh.1 hh.2) ?_
      refine opP_i offPtr_ptr ?_
      rw [Nat.zero_add]
      refine store_at hO (Γ'.length + 1) (at_r rfl) (show (by8 (D.cell (d.done[y].1 : Int)).kept).length = 64 by rw [by8_len]; exact hck.k) (by show _ ≤ (celC D.cells).length; omega) (by8_one _) ?_
      clear hO
      intro H hO
      have e3 := set_seen (d := D) ok2 hh hck.k
      rw [by8_len, hck.k] at e3
      repeat (first | refine oi ?_ | refine ow ?_ | refine wy ?_ | refine wn ?_ | refine wt ?_ | refine wf' ?_ | refine cy ?_ | refine cn ?_)
      refine ⟨_, by omega, y + 1, by omega, rfl, rfl, fin (dw_cells hO ?_ ?_ ?_ ?_ ?_ ?_)⟩
      · refine e3.trans ?_
        show _ = celC (seeAll C (d.done.take (y + 1)))
        rw [List.take_succ_eq_append_getElem hyl]
        unfold seeAll
        rw [List.foldl_append]
        show _ = celC (see1 (seeAll C (d.done.take y)) d.done[y])
        rw [← hDc]
        unfold see1
        rw [show D.cells.getD d.done[y].1 zCell = D.cell (d.done[y].1 : Int) by unfold Dv.cell; rw [Int.toNat_natCast], Int.toNat_natCast]
      · show (seeAll _ _).length = _
        rw [hDc, seeAll_len, seeAll_len]
      · exact hDd.symm
      · rw [← hD]
      · rw [← hD]
      · rw [← hD]
    · have ey : y = d.done.length := by omega
      subst ey
      rw [List.take_length] at hO
      repeat (first | refine oi ?_ | refine ow ?_ | refine wy ?_ | refine wn ?_ | refine wt ?_ | refine wf' ?_ | refine cy ?_ | refine cn ?_)
      refine store1_at hO (Γ.length + 0) (at_r rfl) rfl (show 1 < 5 by omega) rfl ?_
      clear hO
      intro H hO
      replace hO : St H (Γ ++ ([(pd, ⟨dv pc nilSl { d with cells := seeAll C d.done }, true⟩), (pc, ⟨celC (seeAll C d.done), true⟩)] ++ outB vd (chgC d.done))) := hO.set_r
      repeat (first | refine oi ?_ | refine ow ?_ | refine wy ?_ | refine wn ?_ | refine wt ?_ | refine wf' ?_ | refine cy ?_ | refine cn ?_)
      refine store1_at hO (Γ.length + 0) (at_r rfl) rfl (show 3 < 5 by omega) rfl ?_
      clear hO
      intro H hO
      replace hO : St H (Γ ++ ([(pd, ⟨dv pc nilSl { d with cells := seeAll C d.done, budget := -1 }, true⟩), (pc, ⟨celC (seeAll C d.done), true⟩)] ++ outB vd (chgC d.done))) := hO.set_r
      repeat (first | refine oi ?_ | refine ow ?_ | refine wy ?_ | refine wn ?_ | refine wt ?_ | refine wf' ?_ | refine cy ?_ | refine cn ?_)
      refine store1_at hO (Γ.length + 0) (at_r rfl) rfl (show 4 < 5 by omega) rfl ?_
      clear hO
      intro H hO
      replace hO : St H (Γ ++ ([(pd, ⟨dv pc nilSl { d with cells := seeAll C d.done, budget := -1, down := false }, true⟩), (pc, ⟨celC (seeAll C d.done), true⟩)] ++ outB vd (chgC d.done))) := hO.set_r
      refine hk _ ?_
      unfold Dv.restart
      rw [hC]
      exact hO.sub (List.Sublist.append (List.Sublist.refl _) (List.Sublist.append (List.Sublist.refl _) (List.nil_sublist _)))
end J
set_option linter.unusedVariables false
set_option linter.unusedSimpArgs false
set_option maxRecDepth 100000
namespace J
open Go Go.Ab
variable {H : Heap} {Γ : List (Nat × Blk)} {K : Value → Heap → Prop} {v w x : Value} {xs ys : List Int} {j p : Nat} {e : Int}
variable {pd pc : Nat} {vd : Value} {d : Dv} {a : Int} {s : List Int}
theorem mkCells : makeSliceC P 116 = ⟨makeSl 129 136 (cel zCell)⟩ := by kernel_rfl
theorem repl_flat {α : Type} (f : α → List Value) (z : α) : ∀ n : Nat, repl n (f z) = (List.replicate n z).flatMap f
  | 0 => rfl
  | n + 1 => by
    show appN (f z) (repl n (f z)) = _
    rw [appN_eq, repl_flat f z n, List.replicate_succ, List.flatMap_cons]
theorem bDev (n : Nat) (pc : Nat) (w : Int) : (buildC P 119).f [(0, sl pc 0 n 259), (2, int w), (3, .int .i64 (-1))] = some (agg [sl pc 0 n 259, nilSl, int w, int (-1), .bool false]) := by kernel_rfl
def bCell0 : Cell := ⟨blank, blank, 0⟩
def Dv.new (n : Nat) (w : Int) : Dv := ⟨List.replicate n bCell0, [], w, -1, false⟩
theorem zCell_ok : zCell.Ok := ⟨rfl, rfl, by decide⟩
theorem bCell0_ok : bCell0.Ok := ⟨rfl, rfl, by decide⟩
theorem Dv.new_ok {n : Nat} {w : Int} (hn : n ≤ 4096) (hw : w ≤ 100000) : (Dv.new n w).Ok := by
  refine ⟨fun c hc => ?_, by show (List.replicate n _).length ≤ _; rw [List.length_replicate]; exact hn, fun x hx => (by cases hx), hw, by show -1 ≤ (-1 : Int) ∧ (-1 : Int) ≤ _; omega⟩
  rw [(List.mem_replicate.1 hc).2]; exact bCell0_ok
set_option maxHeartbeats 1000000 in
theorem dNew_spec {n w : Nat} (hn : n ≤ 4096) (hw : w ≤ 100000) (hO : St H Γ) (hk : ∀ H' pd pc, St H' (Γ ++ DW pd pc nilSl (Dv.new n w)) → K (ptr pd 0) H') : wCall P n_flash_New [int n, int w] H K := by
  apply flash_New_ok; unfold flash_New
  refine opW_i min_w ?_
  refine opW_i max_w ?_
  rw [show max (0 : Int) (min (n : Int) 4096) = n by omega, mkCells]
  refine make_at (k := .i64) (k' := .i64) hO (by omega) (by omega) ?_
  clear hO
  intro pc H hO
  refine opW_i min_w ?_
  refine opW_i max_w ?_
  rw [show max (0 : Int) (min (w : Int) 100000) = w by omega]
  refine opP_i (bDev n pc w) ?_
  refine new_at hO ?_
  clear hO
  intro pd H hO
  repeat (first | refine oi ?_ | refine ow ?_ | refine wy ?_ | refine wn ?_ | refine wt ?_ | refine wf' ?_ | refine cy ?_ | refine cn ?_)
  refine load_at hO ((Γ ++ [(pc, (⟨repl n (cel zCell), true⟩ : Blk))]).length + 0) (at_r rfl) rfl ?_
  repeat (first | refine oi ?_ | refine ow ?_ | refine wy ?_ | refine wn ?_ | refine wt ?_ | refine wf' ?_ | refine cy ?_ | refine cn ?_)
  rw [repl_flat] at hO
  replace hO : St H (Γ ++ DW pd pc nilSl { Dv.new n w with cells := List.replicate n zCell }) := by
    have h3 : St H ((Γ ++ [(pc, ⟨celC (List.replicate n zCell), true⟩)]) ++ [(pd, ⟨[sl pc 0 n 259, nilSl, int w, int (-1), .bool false], true⟩)]) := hO
    have h4 := h3.rot
    rw [List.append_assoc] at h4
    have e : dv pc nilSl { Dv.new n w with cells := List.replicate n zCell } = [sl pc 0 n 259, nilSl, int w, int (-1), .bool false] := by unfold dv; rw [List.length_replicate]; rfl
    show St H (Γ ++ ([(pd, ⟨dv pc nilSl { Dv.new n w with cells := List.replicate n zCell }, true⟩), (pc, ⟨celC (List.replicate n zCell), true⟩)] ++ []))
    rw [e]
    exact h4
  refine flash_New_L0_ind (fun k l' H' => ∃ y : Nat, y ≤ n ∧ k = n - y ∧ l' = [.pointer none, ptr pd 0, int n, int y] ∧ St H' (Γ ++ DW pd pc nilSl { Dv.new n w with cells := List.replicate y bCell0 ++ List.replicate (n - y) zCell })) _ _ ?_ n _ _ ⟨0, by omega, rfl, rfl, hO⟩
  clear hO
  rintro k l' H' ⟨y, hy, rfl, rfl, hO⟩
  unfold flash_New_L0
  try simp only [nth_zero, nth_succ]
  repeat (first | refine oi ?_ | refine ow ?_ | refine wy ?_ | refine wn ?_ | refine wt ?_ | refine wf' ?_ | refine cy ?_ | refine cn ?_)
  refine wIf_dec (fun h => ?_) (fun h => ?_)
  · have hyl : y < n := by omega
    generalize hC : List.replicate y bCell0 ++ List.replicate (n - y) zCell = C at *
    have hCl : C.length = n := by rw [← hC]; simp; omega
    have okC : ∀ c ∈ C, c.Ok := by
      intro c hc
      rw [← hC] at hc
      rcases List.mem_append.1 hc with hc | hc
      · rw [(List.mem_replicate.1 hc).2]; exact bCell0_ok
      · rw [(List.mem_replicate.1 hc).2]; exact zCell_ok
    repeat (first | refine oi ?_ | refine ow ?_ | refine wy ?_ | refine wn ?_ | refine wt ?_ | refine wf' ?_ | refine cy ?_ | refine cn ?_)
    refine load_at hO (Γ.length + 0) (at_r rfl) rfl ?_
    refine Blank_spec hO ?_
    intro H2 hO2
    refine ⟨same_at hO (Γ.length + 0) (at_r rfl) hO2 (Γ.length + 0) (at_r rfl) rfl, ?_⟩
    clear hO
    refine Blank_spec hO2 ?_
    intro H3 hO3
    refine ⟨same_at hO2 (Γ.length + 0) (at_r rfl) hO3 (Γ.length + 0) (at_r rfl) rfl, ?_⟩
    clear hO2
    refine opP_i (bCell (s := blank) (s' := blank) rfl rfl) ?_
    refine opP_i (idxSl_ok (by omega) (by show (y : Int) < (C.length : Int); omega)) ?_
    have hcl : (celC C).length = n * 129 := by rw [celC_len okC, hCl]
    have hcy := flat_put (f := cel) (l := C) (i := y) (o := 0) (y := bCell0) (new := cel bCell0) (fun c hc => cel_len (okC c hc)) (by omega) (by rw [cel_len bCell0_ok]; omega) (by rw [List.drop_of_length_le (by rw [cel_len bCell0_ok, cel_len (okC _ (List.getElem_mem _))]; omega)]; simp)
    rw [cel_len bCell0_ok] at hcy
    refine store_at hO3 (Γ.length + 1) (at_r rfl) (show (cel bCell0).length = 129 from cel_len bCell0_ok) (by show _ ≤ (celC C).length; rw [hcl]; omega) (cel_one _) ?_
    clear hO3
    intro H hO
    repeat (first | refine oi ?_ | refine ow ?_ | refine wy ?_ | refine wn ?_ | refine wt ?_ | refine wf' ?_ | refine cy ?_ | refine cn ?_)
    refine ⟨_, by omega, y + 1, by omega, rfl, rfl, dw_cells (d' := { Dv.new n w with cells := List.replicate (y + 1) bCell0 ++ List.replicate (n - (y + 1)) zCell }) hO ?_ ?_ rfl rfl rfl rfl⟩
    · have e1 : 0 + (y : Int).toNat * 129 = y * 129 + 0 := by rw [Int.toNat_natCast]; omega
      rw [e1]
      refine hcy.trans ?_
      show (C.set y bCell0).flatMap cel = celC (List.replicate (y + 1) bCell0 ++ List.replicate (n - (y + 1)) zCell)
      rw [← hC, List.set_append_right _ _ (by simp), List.length_replicate, Nat.sub_self, show n - y = (n - (y + 1)) + 1 by omega, List.replicate_succ, List.set_cons_zero, List.replicate_succ']
      simp [celC]
    · show (_ ++ _ : List Cell).length = C.length
      rw [hCl]; simp; omega
  · have ey : y = n := by omega
    subst ey
    rw [Nat.sub_self, List.replicate_zero, List.append_nil] at hO
    repeat (first | refine oi ?_ | refine ow ?_ | refine wy ?_ | refine wn ?_ | refine wt ?_ | refine wf' ?_ | refine cy ?_ | refine cn ?_)
    exact hk _ pd pc hO
end J
set_option linter.unusedVariables false
set_option linter.unusedSimpArgs false
set_option maxRecDepth 100000
namespace J
open Go Go.Ab
variable {H : Heap} {Γ : List (Nat × Blk)} {K : Value → Heap → Prop} {v w x : Value} {xs ys : List Int} {j p : Nat} {e : Int}
structure Op where
  kind : Int
  part : Int
  pos : Int
  who : Int
structure Mp where
  d : Dv
  spans : List (Nat × Nat)
  who : Int
  ops : List Op
def opC (o : Op) : List Value := [int o.kind, int o.part, int o.pos, int o.who]
def opsC (l : List Op) : List Value := l.flatMap opC
def spC (l : List (Nat × Nat)) : List Value := l.flatMap fun x => [int x.1, int x.2]
structure Mloc where
  pm : Nat
  pd : Nat
  pc : Nat
  ps : Nat
  vd : Value
  vo : Value
def mv (L : Mloc) (m : Mp) : List Value := [ptr L.pd 0, sl L.ps 0 m.spans.length 4, int m.who, L.vo]
abbrev MA (L : Mloc) (m : Mp) : List (Nat × Blk) := [(L.pm, ⟨mv L m, true⟩), (L.ps, ⟨spC m.spans, true⟩)]
abbrev MW (L : Mloc) (m : Mp) : List (Nat × Blk) := MA L m ++ (outB L.vo (opsC m.ops) ++ DW L.pd L.pc L.vd m.d)
structure Mown (L : Mloc) (m : Mp) : Prop where
  d : OwnD L.vd m.d
  o : Own 4 L.vo m.ops.length (opsC m.ops)
structure Mloc.Eq (L L' : Mloc) : Prop where
  m : L'.pm = L.pm
  d : L'.pd = L.pd
  c : L'.pc = L.pc
  s : L'.ps = L.ps
structure Mp.Ok (m : Mp) : Prop where
  d : m.d.Ok
  s : ∀ x ∈ m.spans, x.1 + x.2 ≤ m.d.cells.length
  n : m.spans.length ≤ 16
def Mp.Sm (m : Mp) (N : Nat) : Prop := m.d.done.length ≤ N ∧ m.ops.length ≤ N
variable {L : Mloc} {m : Mp} {part pos : Int}
theorem MW.toD (h : St H (Γ ++ MW L m)) : St H (((Γ ++ MA L m) ++ outB L.vo (opsC m.ops)) ++ DW L.pd L.pc L.vd m.d) := by
  rw [List.append_assoc, List.append_assoc]; exact h
theorem MW.ofD (h : St H (((Γ ++ MA L m) ++ outB L.vo (opsC m.ops)) ++ DW L.pd L.pc L.vd m.d)) : St H (Γ ++ MW L m) := by
  rw [List.append_assoc, List.append_assoc] at h; exact h
def Mp.has (m : Mp) (part : Int) : Prop := 0 ≤ part ∧ part < m.spans.length
instance : Decidable (m.has part) := by unfold Mp.has; infer_instance
def Mp.span (m : Mp) (part : Int) : Nat × Nat := m.spans.getD part.toNat (0, 0)
def Mp.size (m : Mp) (part : Int) : Nat := if m.has part then (m.span part).2 else 0
theorem Mp.span_mem (h : m.has part) : m.span part ∈ m.spans := by
  unfold Mp.span
  have : part.toNat < m.spans.length := by have := h.1; have := h.2; omega
  rw [List.getD_eq_getElem?_getD, List.getElem?_eq_getElem this]
  exact List.getElem_mem this
theorem span_at (h : m.has part) : (spC m.spans)[part.toNat * 2 + 0]? = some (int (m.span part).1) ∧ (spC m.spans)[part.toNat * 2 + 1]? = some (int (m.span part).2) := by
  have hi : part.toNat < m.spans.length := by have := h.1; have := h.2; omega
  have e : m.span part = m.spans[part.toNat] := by unfold Mp.span; rw [List.getD_eq_getElem?_getD, List.getElem?_eq_getElem hi]; rfl
  unfold spC
  rw [flat_get (n := 2) (fun _ _ => rfl) hi (by omega), flat_get (n := 2) (fun _ _ => rfl) hi (by omega), e]
  exact ⟨rfl, rfl⟩
theorem mDevice_spec (hO : St H (Γ ++ MW L m)) (hk : K (ptr L.pd 0) H) : wCall P n_part_Map_Device [ptr L.pm 0] H K := by
  apply part_Map_Device_ok; unfold part_Map_Device
  repeat (first | refine oi ?_ | refine ow ?_ | refine wy ?_ | refine wn ?_ | refine wt ?_ | refine wf' ?_ | refine cy ?_ | refine cn ?_)
  refine load_at hO (Γ.length + 0) (at_r rfl) rfl ?_
  exact hk
theorem mHas_spec (hO : St H (Γ ++ MW L m)) (hk : K (.bool (decide (m.has part))) H) : wCall P n_part_Map_has [ptr L.pm 0, int part] H K := by
  apply part_Map_has_ok; unfold part_Map_has
  repeat (first | refine oi ?_ | refine ow ?_ | refine wy ?_ | refine wn ?_ | refine wt ?_ | refine wf' ?_ | refine cy ?_ | refine cn ?_)
  refine wIf_dec (fun h => ?_) (fun h => ?_)
  · repeat (first | refine oi ?_ | refine ow ?_ | refine wy ?_ | refine wn ?_ | refine wt ?_ | refine wf' ?_ | refine cy ?_ | refine cn ?_)
    refine load_at hO (Γ.length + 0) (at_r rfl) rfl ?_
    repeat (first | refine oi ?_ | refine ow ?_ | refine wy ?_ | refine wn ?_ | refine wt ?_ | refine wf' ?_ | refine cy ?_ | refine cn ?_)
    rw [decide_eq_decide.2 (show part < (m.spans.length : Int) ↔ m.has part from ⟨fun h2 => ⟨h, h2⟩, fun h2 => h2.2⟩)]
    exact hk
  · repeat (first | refine oi ?_ | refine ow ?_ | refine wy ?_ | refine wn ?_ | refine wt ?_ | refine wf' ?_ | refine cy ?_ | refine cn ?_)
    rw [decide_eq_false (show ¬ m.has part from fun h2 => h h2.1)] at hk
    exact hk
theorem mSize_spec (hO : St H (Γ ++ MW L m)) (hk : K (int (m.size part)) H) : wCall P n_part_Map_Size [ptr L.pm 0, int part] H K := by
  apply part_Map_Size_ok; unfold part_Map_Size
  refine mHas_spec hO ?_
  unfold Mp.size at hk
  refine opP_i un_not ?_
  by_cases h : m.has part
  · rw [if_pos h] at hk
    rw [decide_eq_true h]
    refine wIf_f rfl ?_
    repeat (first | refine oi ?_ | refine ow ?_ | refine wy ?_ | refine wn ?_ | refine wt ?_ | refine wf' ?_ | refine cy ?_ | refine cn ?_)
    refine load_at hO (Γ.length + 0) (at_r rfl) rfl ?_
    refine opP_i (idxSl_ok h.1 h.2) ?_
    repeat (first | refine oi ?_ | refine ow ?_ | refine wy ?_ | refine wn ?_ | refine wt ?_ | refine wf' ?_ | refine cy ?_ | refine cn ?_)
    rw [Nat.zero_add]
    refine load_at hO (Γ.length + 1) (at_r rfl) (span_at h).2 ?_
    exact hk
  · rw [if_neg h] at hk
    rw [decide_eq_false h]
    exact wIf_t rfl hk
def Mp.place (m : Mp) (part pos : Int) : Int × Int := if ¬ m.has part then (0, 71) else if pos < 0 ∨ (m.span part).2 ≤ pos then (0, 61) else ((m.span part).1 + pos, 0)
theorem mPlace_spec (ok : m.Ok) (hO : St H (Γ ++ MW L m)) (hk : K (.tuple [int (m.place part pos).1, int (m.place part pos).2].toArray) H) : wCall P n_part_Map_place [ptr L.pm 0, int part, int pos] H K := by
  apply part_Map_place_ok; unfold part_Map_place
  refine mHas_spec hO ?_
  unfold Mp.place at hk
  refine opP_i un_not ?_
  by_cases h : m.has part
  · rw [if_neg (fun h' => h' h)] at hk
    rw [decide_eq_true h]
    refine wIf_f rfl ?_
    refine join_with (fun l' H' => l' = [ptr L.pm 0, int part, int pos, .bool (decide (pos < 0 ∨ (m.span part).2 ≤ pos))] ∧ H' = H) ?_ ?_
    · repeat (first | refine oi ?_ | refine ow ?_ | refine wy ?_ | refine wn ?_ | refine wt ?_ | refine wf' ?_ | refine cy ?_ | refine cn ?_)
      refine wIf_dec (fun h1 => ?_) (fun h1 => ?_)
      · repeat (first | refine oi ?_ | refine ow ?_ | refine wy ?_ | refine wn ?_ | refine wt ?_ | refine wf' ?_ | refine cy ?_ | refine cn ?_)
        exact ⟨by rw [decide_eq_true (.inl h1)], rfl⟩
      · repeat (first | refine oi ?_ | refine ow ?_ | refine wy ?_ | refine wn ?_ | refine wt ?_ | refine wf' ?_ | refine cy ?_ | refine cn ?_)
        refine load_at hO (Γ.length + 0) (at_r rfl) rfl ?_
        refine opP_i (idxSl_ok h.1 h.2) ?_
        repeat (first | refine oi ?_ | refine ow ?_ | refine wy ?_ | refine wn ?_ | refine wt ?_ | refine wf' ?_ | refine cy ?_ | refine cn ?_)
        rw [Nat.zero_add]
        refine load_at hO (Γ.length + 1) (at_r rfl) (span_at h).2 ?_
        repeat (first | refine oi ?_ | refine ow ?_ | refine wy ?_ | refine wn ?_ | refine wt ?_ | refine wf' ?_ | refine cy ?_ | refine cn ?_)
        exact ⟨by rw [decide_eq_decide.2 (show ((m.span part).2 : Int) ≤ pos ↔ (pos < 0 ∨ (m.span part).2 ≤ pos) by omega)], rfl⟩
    rintro l' H' ⟨rfl, rfl⟩
    try simp only [nth_zero, nth_succ]
    refine wIf_dec (fun h1 => ?_) (fun h1 => ?_)
    · rw [if_pos h1] at hk
      exact hk
    · rw [if_neg h1] at hk
      repeat (first | refine oi ?_ | refine ow ?_ | refine wy ?_ | refine wn ?_ | refine wt ?_ | refine wf' ?_ | refine cy ?_ | refine cn ?_)
      refine load_at hO (Γ.length + 0) (at_r rfl) rfl ?_
      refine opP_i (idxSl_ok h.1 h.2) ?_
      repeat (first | refine oi ?_ | refine ow ?_ | refine wy ?_ | refine wn ?_ | refine wt ?_ | refine wf' ?_ | refine cy ?_ | refine cn ?_)
      rw [Nat.zero_add]
      refine load_at hO (Γ.length + 1) (at_r rfl) (span_at h).1 ?_
      have := ok.s _ (Mp.span_mem h)
      have := ok.d.n
      repeat (first | refine oi ?_ | refine ow ?_ | refine wy ?_ | refine wn ?_ | refine wt ?_ | refine wf' ?_ | refine cy ?_ | refine cn ?_)
      exact hk
  · rw [if_pos h] at hk
    rw [decide_eq_false h]
    exact wIf_t rfl hk
def Mp.read (m : Mp) (part pos : Int) : List Int × Int := if (m.place part pos).2 ≠ 0 then (zeros, (m.place part pos).2) else m.d.read (m.place part pos).1
theorem Dv.read_len {d : Dv} (ok : d.Ok) {a : Int} : (d.read a).1.length = 64 := by
  unfold Dv.read
  by_cases h : d.has a
  · rw [if_pos h]; exact (Dv.cellOk ok.c h).s
  · rw [if_neg h]; rfl
theorem Mp.read_len (ok : m.Ok) : (m.read part pos).1.length = 64 := by
  unfold Mp.read
  split
  · rfl
  · exact Dv.read_len ok.d
theorem mRead_spec (ok : m.Ok) (hO : St H (Γ ++ MW L m)) (hk : ∀ H', St H' (Γ ++ MW L m) → K (.tuple [sec (m.read part pos).1, int (m.read part pos).2].toArray) H') : wCall P n_part_Map_Read [ptr L.pm 0, int part, int pos] H K := by
  apply part_Map_Read_ok; unfold part_Map_Read
  rw [zcS]
  refine new_at hO ?_
  clear hO
  intro p6 H hO
  replace hO := hO.rot
  have i6 : (Γ ++ [(p6, (⟨by8 zeros, true⟩ : Blk))])[Γ.length + 0]? = some (p6, ⟨by8 zeros, true⟩) := at_r rfl
  refine mPlace_spec ok hO ?_
  refine opP_i ext0 ?_
  refine opP_i ext1 ?_
  refine opP_i bin_neq ?_
  unfold Mp.read at hk
  refine wIf_dec (fun h => ?_) (fun h => ?_)
  · rw [if_pos h] at hk
    refine opP_i bS ?_
    refine storeAll_at hO (Γ.length + 0) (at_l i6) (by rw [by8_len]; rfl) (by rw [by8_len]; rfl) (by8_one _) ?_
    clear hO
    intro H hO
    rw [List.set_append_left _ _ (by simp), Go.Ab.set_r] at hO
    refine loadAll_at hO (Γ.length + 0) (at_l (at_r rfl)) (by rw [by8_len]; rfl) (by omega) ?_
    exact hk _ (St.mid hO)
  · rw [if_neg h] at hk
    repeat (first | refine oi ?_ | refine ow ?_ | refine wy ?_ | refine wn ?_ | refine wt ?_ | refine wf' ?_ | refine cy ?_ | refine cn ?_)
    refine load_at hO ((Γ ++ [(p6, (⟨by8 zeros, true⟩ : Blk))]).length + 0) (at_r rfl) rfl ?_
    refine dRead_spec ok.d.c (MW.toD hO) ?_
    clear hO
    intro H hO
    replace hO := MW.ofD hO
    refine opP_i ext0 ?_
    refine opP_i ext1 ?_
    have hl := Dv.read_len ok.d (a := (m.place part pos).1)
    refine storeAll_at hO (Γ.length + 0) (at_l i6) (by rw [by8_len]; rfl) (by rw [by8_len]; exact hl) (by8_one _) ?_
    clear hO
    intro H hO
    rw [List.set_append_left _ _ (by simp), Go.Ab.set_r] at hO
    refine loadAll_at hO (Γ.length + 0) (at_l (at_r rfl)) (by rw [by8_len]; exact hl) (by omega) ?_
    exact hk _ (St.mid hO)
def Mp.note (m : Mp) (o : Op) (e : Int) : Mp := if e = 0 then { m with ops := m.ops ++ [{ o with who := m.who }] } else m
theorem bOps (o : Op) (H : Heap) : (buildSliceC P 113 1).f [(0, agg (opC o))] H = some (sl H.next 0 1 9, H.push (opC o)) := by kernel_rfl
theorem bOp (a b c : Int) : (buildC P 170).f [(0, int a), (1, int b), (2, int c)] = some (agg (opC ⟨a, b, c, 0⟩)) := by kernel_rfl
theorem opsC_snoc (l : List Op) (o : Op) : opsC l ++ opC o = opsC (l ++ [o]) := by simp [opsC]
theorem note_spec {o : Op} (hs : m.ops.length ≤ 1000000000) (hO : St H (Γ ++ MW L m)) (hv : Mown L m)
    (hk : ∀ H' L', L.Eq L' → St H' (Γ ++ MW L' (m.note o e)) → Mown L' (m.note o e) → K (int e) H') : wCall P n_part_Map_note [ptr L.pm 0, agg (opC o), int e] H K := by
  apply part_Map_note_ok; unfold part_Map_note
  refine new_at hO ?_
  clear hO
  intro p4 H hO
  replace hO := hO.rot
  have i4 : (Γ ++ [(p4, (⟨opC o, true⟩ : Blk))])[Γ.length + 0]? = some (p4, ⟨opC o, true⟩) := at_r rfl
  replace hO : St H ((Γ ++ [(p4, ⟨opC o, true⟩)]) ++ MW L m) := hO
  refine opP_i bin_eql ?_
  unfold Mp.note at hk
  refine wIf_dec (fun h => ?_) (fun h => ?_)
  · rw [if_pos h] at hk
    repeat (first | refine oi ?_ | refine ow ?_ | refine wy ?_ | refine wn ?_ | refine wt ?_ | refine wf' ?_ | refine cy ?_ | refine cn ?_)
    refine load_at hO ((Γ ++ [(p4, (⟨opC o, true⟩ : Blk))]).length + 0) (at_r rfl) rfl ?_
    repeat (first | refine oi ?_ | refine ow ?_ | refine wy ?_ | refine wn ?_ | refine wt ?_ | refine wf' ?_ | refine cy ?_ | refine cn ?_)
    refine store1_at hO (Γ.length + 0) (at_l i4) rfl (show 3 < 4 by omega) (show _ = opC { o with who := m.who } from rfl) ?_
    clear hO
    intro H hO
    rw [List.set_append_left _ _ (by simp), Go.Ab.set_r] at hO
    replace hO : St H ((Γ ++ [(p4, ⟨opC { o with who := m.who }, true⟩)]) ++ MW L m) := hO
    clear i4
    have i4 : (Γ ++ [(p4, (⟨opC { o with who := m.who }, true⟩ : Blk))])[Γ.length + 0]? = some (p4, ⟨opC { o with who := m.who }, true⟩) := at_r rfl
    have fin : ∀ {H : Heap} {Δ : List (Nat × Blk)}, St H ((Γ ++ [(p4, ⟨opC { o with who := m.who }, true⟩)]) ++ Δ) → St H (Γ ++ Δ) := fun h => St.mid h
    generalize Γ ++ [(p4, (⟨opC { o with who := m.who }, true⟩ : Blk))] = Γ' at hO i4 fin
    repeat (first | refine oi ?_ | refine ow ?_ | refine wy ?_ | refine wn ?_ | refine wt ?_ | refine wf' ?_ | refine cy ?_ | refine cn ?_)
    refine load_at hO (Γ'.length + 0) (at_r rfl) rfl ?_
    refine loadAll_at hO (Γ.length + 0) (at_l i4) rfl (by omega) ?_
    have hO' : St H (((Γ' ++ MA L m) ++ DW L.pd L.pc L.vd m.d) ++ outB L.vo (opsC m.ops)) := (MW.toD hO).rot
    refine newSl_at hO' (bOps _ _) ?_
    clear hO hO'
    intro q H hO
    refine append_elem hO hv.o rfl (by omega) rfl (by omega) (by omega) ?_
    clear hO
    intro vo' H hO hvo
    repeat (first | refine oi ?_ | refine ow ?_ | refine wy ?_ | refine wn ?_ | refine wt ?_ | refine wf' ?_ | refine cy ?_ | refine cn ?_)
    obtain ⟨a1, n1, c1, e1⟩ : ∃ a1 n1 c1, vo' = .slice a1 n1 c1 := by rcases hvo with ⟨_, h, _⟩ | ⟨p, rfl | rfl, _⟩; omega; exact ⟨_, _, _, rfl⟩; exact ⟨_, _, _, rfl⟩
    refine store1_at hO (Γ'.length + 0) (at_l (at_l (at_r rfl))) (by rw [e1]; rfl) (show 3 < 4 by omega) rfl ?_
    clear hO
    intro H hO
    rw [List.set_append_left _ _ (by simp), List.set_append_left _ _ (by simp), Go.Ab.set_r] at hO
    rw [opsC_snoc] at hO hvo
    have h3 : St H (((Γ' ++ MA ⟨L.pm, L.pd, L.pc, L.ps, L.vd, vo'⟩ m) ++ DW L.pd L.pc L.vd m.d) ++ outB vo' (opsC (m.ops ++ [{ o with who := m.who }]))) := hO
    refine hk H ⟨L.pm, L.pd, L.pc, L.ps, L.vd, vo'⟩ ⟨rfl, rfl, rfl, rfl⟩ (fin (MW.ofD (m := { m with ops := m.ops ++ [{ o with who := m.who }] }) h3.rot)) ⟨hv.d, ?_⟩
    show Own 4 vo' (m.ops ++ [_]).length _
    rw [List.length_append]
    exact hvo
  · rw [if_neg h] at hk
    exact hk _ L ⟨rfl, rfl, rfl, rfl⟩ (St.mid hO) hv
end J
set_option linter.unusedVariables false
set_option linter.unusedSimpArgs false
set_option maxRecDepth 100000
namespace J
open Go Go.Ab
variable {H : Heap} {Γ : List (Nat × Blk)} {K : Value → Heap → Prop} {v w x : Value} {xs ys : List Int} {j p : Nat} {e : Int}
variable {L : Mloc} {m : Mp} {part pos : Int} {s : List Int}
def Mp.erase (m : Mp) (part pos : Int) : Mp × Int := if (m.place part pos).2 ≠ 0 then (m, (m.place part pos).2) else (({ m with d := (m.d.erase (m.place part pos).1).1 } : Mp).note ⟨1, part, pos, 0⟩ (m.d.erase (m.place part pos).1).2, (m.d.erase (m.place part pos).1).2)
def Mp.program (m : Mp) (part pos : Int) (s : List Int) : Mp × Int := if (m.place part pos).2 ≠ 0 then (m, (m.place part pos).2) else (({ m with d := (m.d.program (m.place part pos).1 s).1 } : Mp).note ⟨2, part, pos, 0⟩ (m.d.program (m.place part pos).1 s).2, (m.d.program (m.place part pos).1 s).2)
def Mp.sync (m : Mp) : Mp × Int := ({ m with d := m.d.sync.1 }, m.d.sync.2)
theorem Dv.erase_len {d : Dv} {a : Int} : (d.erase a).1.cells.length = d.cells.length := by
  unfold Dv.erase
  split
  · rfl
  split
  · rfl
  split
  · rfl
  split
  · rfl
  show ((d.step.cells.set _ _).set _ _).length = _
  rw [List.length_set, List.length_set]; rfl
theorem Dv.program_len {d : Dv} {a : Int} : (d.program a s).1.cells.length = d.cells.length := by
  unfold Dv.program
  split
  · rfl
  split
  · rfl
  split
  · rfl
  split
  · rfl
  show (d.step.cells.set _ _).length = _
  rw [List.length_set]; rfl
theorem Dv.sync_len {d : Dv} : d.sync.1.cells.length = d.cells.length := by
  unfold Dv.sync
  split
  · rfl
  split
  · rfl
  exact keepAll_len _ _
theorem Dv.erase_done {d : Dv} {a : Int} : (d.erase a).1.done.length ≤ d.done.length + 1 := by
  unfold Dv.erase
  split
  · exact Nat.le_succ _
  split
  · exact Nat.le_succ _
  split
  · exact Nat.le_succ _
  split
  · exact Nat.le_succ _
  show (d.done ++ [_]).length ≤ _
  simp
theorem Dv.program_done {d : Dv} {a : Int} : (d.program a s).1.done.length ≤ d.done.length + 1 := by
  unfold Dv.program
  split
  · exact Nat.le_succ _
  split
  · exact Nat.le_succ _
  split
  · exact Nat.le_succ _
  split
  · exact Nat.le_succ _
  show (d.done ++ [_]).length ≤ _
  simp
theorem Dv.sync_done {d : Dv} : d.sync.1.done.length ≤ d.done.length := by
  unfold Dv.sync
  split
  · exact Nat.le_refl _
  split
  · exact Nat.le_refl _
  exact Nat.zero_le _
theorem Mp.note_d {o : Op} : (m.note o e).d = m.d := by unfold Mp.note; split <;> rfl
theorem Mp.note_s {o : Op} : (m.note o e).spans = m.spans := by unfold Mp.note; split <;> rfl
theorem Mp.note_ops {o : Op} : (m.note o e).ops.length ≤ m.ops.length + 1 := by
  unfold Mp.note; split
  · simp
  · exact Nat.le_succ _
theorem Mp.note_ok {o : Op} (ok : m.Ok) : (m.note o e).Ok := ⟨by rw [Mp.note_d]; exact ok.d, by rw [Mp.note_d, Mp.note_s]; exact ok.s, by rw [Mp.note_s]; exact ok.n⟩
theorem Mp.erase_ok (ok : m.Ok) : (m.erase part pos).1.Ok := by
  unfold Mp.erase
  split
  · exact ok
  · exact Mp.note_ok ⟨Dv.erase_ok ok.d, by rw [Dv.erase_len]; exact ok.s, ok.n⟩
theorem Mp.program_ok (ok : m.Ok) (hs : s.length = 64) : (m.program part pos s).1.Ok := by
  unfold Mp.program
  split
  · exact ok
  · exact Mp.note_ok ⟨Dv.program_ok ok.d hs, by rw [Dv.program_len]; exact ok.s, ok.n⟩
theorem Mp.sync_ok (ok : m.Ok) : m.sync.1.Ok := ⟨Dv.sync_ok ok.d, by show ∀ x ∈ m.spans, _ ≤ m.d.sync.1.cells.length; rw [Dv.sync_len]; exact ok.s, ok.n⟩
theorem Mp.Sm.mono {N M : Nat} (h : m.Sm N) (hm : N ≤ M) : m.Sm M := ⟨Nat.le_trans h.1 hm, Nat.le_trans h.2 hm⟩
theorem Mp.erase_sm {N : Nat} (h : m.Sm N) : (m.erase part pos).1.Sm (N + 1) := by
  unfold Mp.erase
  split
  · exact h.mono (Nat.le_succ _)
  · refine ⟨?_, Nat.le_trans Mp.note_ops (Nat.succ_le_succ h.2)⟩
    rw [Mp.note_d]
    exact Nat.le_trans Dv.erase_done (Nat.succ_le_succ h.1)
theorem Mp.program_sm {N : Nat} (h : m.Sm N) : (m.program part pos s).1.Sm (N + 1) := by
  unfold Mp.program
  split
  · exact h.mono (Nat.le_succ _)
  · refine ⟨?_, Nat.le_trans Mp.note_ops (Nat.succ_le_succ h.2)⟩
    rw [Mp.note_d]
    exact Nat.le_trans Dv.program_done (Nat.succ_le_succ h.1)
theorem Mp.sync_sm {N : Nat} (h : m.Sm N) : m.sync.1.Sm N := ⟨Nat.le_trans Dv.sync_done h.1, h.2⟩
theorem Mloc.Eq.rfl' : L.Eq L := ⟨rfl, rfl, rfl, rfl⟩
theorem Mloc.Eq.trans {L L' L'' : Mloc} (h : L.Eq L') (h' : L'.Eq L'') : L.Eq L'' := ⟨h'.m.trans h.m, h'.d.trans h.d, h'.c.trans h.c, h'.s.trans h.s⟩
theorem MW.dev {d' : Dv} {vd' : Value} (h : St H (((Γ ++ MA L m) ++ outB L.vo (opsC m.ops)) ++ DW L.pd L.pc vd' d')) : St H (Γ ++ MW { L with vd := vd' } { m with d := d' }) := MW.ofD (L := { L with vd := vd' }) (m := { m with d := d' }) h
theorem mErase_spec (ok : m.Ok) (hs : m.Sm 1000000) (hO : St H (Γ ++ MW L m)) (hv : Mown L m)
    (hk : ∀ H' L', L.Eq L' → St H' (Γ ++ MW L' (m.erase part pos).1) → Mown L' (m.erase part pos).1 → K (int (m.erase part pos).2) H') : wCall P n_part_Map_Erase [ptr L.pm 0, int part, int pos] H K := by
  apply part_Map_Erase_ok; unfold part_Map_Erase
  refine mPlace_spec ok hO ?_
  refine opP_i ext0 ?_
  refine opP_i ext1 ?_
  refine opP_i bin_neq ?_
  unfold Mp.erase at hk
  refine wIf_dec (fun h => ?_) (fun h => ?_)
  · rw [if_pos h] at hk
    exact hk _ L Mloc.Eq.rfl' hO hv
  · rw [if_neg h] at hk
    refine opP_i (bOp _ _ _) ?_
    repeat (first | refine oi ?_ | refine ow ?_ | refine wy ?_ | refine wn ?_ | refine wt ?_ | refine wf' ?_ | refine cy ?_ | refine cn ?_)
    refine load_at hO (Γ.length + 0) (at_r rfl) rfl ?_
    refine dErase_spec ok.d hs.1 (MW.toD hO) hv.d ?_
    clear hO
    intro H vd' hO hvd
    refine note_spec (L := { L with vd := vd' }) (m := { m with d := (m.d.erase (m.place part pos).1).1 }) (by have := hs.2; show m.ops.length ≤ _; omega) (MW.dev hO) ⟨hvd, hv.o⟩ ?_
    clear hO
    intro H L' he hO hv'
    exact hk _ L' ⟨he.m, he.d, he.c, he.s⟩ hO hv'
theorem mProgram_spec (ok : m.Ok) (hl : s.length = 64) (hs : m.Sm 1000000) (hO : St H (Γ ++ MW L m)) (hv : Mown L m)
    (hk : ∀ H' L', L.Eq L' → St H' (Γ ++ MW L' (m.program part pos s).1) → Mown L' (m.program part pos s).1 → K (int (m.program part pos s).2) H') : wCall P n_part_Map_Program [ptr L.pm 0, int part, int pos, sec s] H K := by
  apply part_Map_Program_ok; unfold part_Map_Program
  refine new_at hO ?_
  clear hO
  intro p7 H hO
  replace hO := hO.rot
  replace hO : St H ((Γ ++ [(p7, ⟨by8 s, true⟩)]) ++ MW L m) := hO
  have i7 : (Γ ++ [(p7, (⟨by8 s, true⟩ : Blk))])[Γ.length + 0]? = some (p7, ⟨by8 s, true⟩) := at_r rfl
  have fin : ∀ {H : Heap} {Δ : List (Nat × Blk)}, St H ((Γ ++ [(p7, ⟨by8 s, true⟩)]) ++ Δ) → St H (Γ ++ Δ) := fun h => St.mid h
  generalize Γ ++ [(p7, (⟨by8 s, true⟩ : Blk))] = Γ' at hO i7 fin
  refine mPlace_spec ok hO ?_
  refine opP_i ext0 ?_
  refine opP_i ext1 ?_
  refine opP_i bin_neq ?_
  unfold Mp.program at hk
  refine wIf_dec (fun h => ?_) (fun h => ?_)
  · rw [if_pos h] at hk
    exact hk _ L Mloc.Eq.rfl' (fin hO) hv
  · rw [if_neg h] at hk
    refine opP_i (bOp _ _ _) ?_
    repeat (first | refine oi ?_ | refine ow ?_ | refine wy ?_ | refine wn ?_ | refine wt ?_ | refine wf' ?_ | refine cy ?_ | refine cn ?_)
    refine load_at hO (Γ'.length + 0) (at_r rfl) rfl ?_
    refine loadAll_at hO (Γ.length + 0) (at_l i7) (by rw [by8_len]; exact hl) (by omega) ?_
    refine dProgram_spec ok.d hl hs.1 (MW.toD hO) hv.d ?_
    clear hO
    intro H vd' hO hvd
    refine note_spec (L := { L with vd := vd' }) (m := { m with d := (m.d.program (m.place part pos).1 s).1 }) (by have := hs.2; show m.ops.length ≤ _; omega) (MW.dev hO) ⟨hvd, hv.o⟩ ?_
    clear hO
    intro H L' he hO hv'
    exact hk _ L' ⟨he.m, he.d, he.c, he.s⟩ (fin hO) hv'
theorem mSync_spec (ok : m.Ok) (hs : m.Sm 1000000) (hO : St H (Γ ++ MW L m)) (hv : Mown L m)
    (hk : ∀ H' L', L.Eq L' → St H' (Γ ++ MW L' m.sync.1) → Mown L' m.sync.1 → K (int m.sync.2) H') : wCall P n_part_Map_Sync [ptr L.pm 0] H K := by
  apply part_Map_Sync_ok; unfold part_Map_Sync
  repeat (first | refine oi ?_ | refine ow ?_ | refine wy ?_ | refine wn ?_ | refine wt ?_ | refine wf' ?_ | refine cy ?_ | refine cn ?_)
  refine load_at hO (Γ.length + 0) (at_r rfl) rfl ?_
  refine dSync_spec ok.d hs.1 (MW.toD hO) hv.d ?_
  clear hO
  intro H vd' hO hvd
  exact hk H { L with vd := vd' } ⟨rfl, rfl, rfl, rfl⟩ (MW.dev hO) ⟨hvd, hv.o⟩
def Mp.wipeN (part : Int) : Nat → Nat → Mp → Mp × Int
  | 0, _, m => (m, 0)
  | n + 1, y, m => if (m.read part y).1 = blank then wipeN part n (y + 1) m else if (m.erase part y).2 ≠ 0 then m.erase part y else wipeN part n (y + 1) (m.erase part y).1
theorem Mp.wipeN_zero {y : Nat} : Mp.wipeN part 0 y m = (m, 0) := rfl
theorem Mp.wipeN_succ {n y : Nat} : Mp.wipeN part (n + 1) y m = if (m.read part y).1 = blank then wipeN part n (y + 1) m else if (m.erase part y).2 ≠ 0 then m.erase part y else wipeN part n (y + 1) (m.erase part y).1 := rfl
def Mp.wipe (m : Mp) (part : Int) : Mp × Int := if ¬ m.has part then (m, 71) else Mp.wipeN part (m.size part) 0 m
theorem mWipe_spec {N : Nat} (ok : m.Ok) (hs : m.Sm N) (hN : N + 5000 ≤ 1000000) (hO : St H (Γ ++ MW L m)) (hv : Mown L m)
    (hk : ∀ H' L', L.Eq L' → St H' (Γ ++ MW L' (m.wipe part).1) → Mown L' (m.wipe part).1 → K (int (m.wipe part).2) H') : wCall P n_part_Map_Wipe [ptr L.pm 0, int part] H K := by
  apply part_Map_Wipe_ok; unfold part_Map_Wipe
  refine mHas_spec hO ?_
  unfold Mp.wipe at hk
  refine opP_i un_not ?_
  by_cases h : m.has part
  · rw [if_neg (fun h' => h' h)] at hk
    rw [decide_eq_true h]
    refine wIf_f rfl ?_
    refine mSize_spec hO ?_
    have hsz : m.size part ≤ 4096 := by
      unfold Mp.size
      rw [if_pos h]
      have := ok.s _ (Mp.span_mem h)
      have := ok.d.n
      omega
    refine part_Map_Wipe_L0_ind (fun k l' H' => ∃ (y : Nat) (L2 : Mloc) (m2 : Mp), y ≤ m.size part ∧ k = m.size part - y ∧ l' = [ptr L.pm 0, int part, int 0, int (m.size part), int y] ∧ L.Eq L2 ∧ m2.Ok ∧ m2.Sm (N + y) ∧ St H' (Γ ++ MW L2 m2) ∧ Mown L2 m2 ∧ Mp.wipeN part (m.size part) 0 m = Mp.wipeN part (m.size part - y) y m2) _ _ ?_ (m.size part) _ _ ⟨0, L, m, by omega, rfl, rfl, Mloc.Eq.rfl', ok, hs, hO, hv, rfl⟩
    clear hO
    rintro k l' H ⟨y, L2, m2, hy, rfl, rfl, he, ok2, hs2, hO, hv2, hw⟩
    unfold part_Map_Wipe_L0
    try simp only [nth_zero, nth_succ]
    repeat (first | refine oi ?_ | refine ow ?_ | refine wy ?_ | refine wn ?_ | refine wt ?_ | refine wf' ?_ | refine cy ?_ | refine cn ?_)
    refine wIf_dec (fun h1 => ?_) (fun h1 => ?_)
    · have hyl : y < m.size part := by omega
      rw [show m.size part - y = (m.size part - (y + 1)) + 1 by omega] at hw
      rw [Mp.wipeN_succ] at hw
      have em := he.m
      rw [← em]
      refine mRead_spec ok2 hO ?_
      clear hO
      intro H hO
      have hl := Mp.read_len ok2 (part := part) (pos := (y : Int))
      refine opP_i ext0 ?_
      refine opP_i ext1 ?_
      rw [zcS]
      refine new_at hO ?_
      clear hO
      intro p6 H hO
      refine storeAll_at hO ((Γ ++ MW L2 m2).length + 0) (at_r rfl) (by rw [by8_len]; rfl) (by rw [by8_len]; exact hl) (by8_one _) ?_
      clear hO
      intro H hO
      replace hO : St H ((Γ ++ MW L2 m2) ++ [(p6, ⟨by8 (m2.read part y).1, true⟩)]) := hO.set_r
      refine loadAll_at hO ((Γ ++ MW L2 m2).length + 0) (at_r rfl) (by rw [by8_len]; exact hl) (by omega) ?_
      refine Blank_spec hO ?_
      intro H2 hO2
      refine ⟨same_at hO ((Γ ++ MW L2 m2).length + 0) (at_r rfl) hO2 ((Γ ++ MW L2 m2).length + 0) (at_r rfl) (by8_simple _), ?_⟩
      clear hO
      have hO := hO2.left
      clear hO2
      refine opP_i (eqS _ hl rfl) ?_
      refine wIf_dec (fun h2 => ?_) (fun h2 => ?_)
      · rw [if_pos h2] at hw
        repeat (first | refine oi ?_ | refine ow ?_ | refine wy ?_ | refine wn ?_ | refine wt ?_ | refine wf' ?_ | refine cy ?_ | refine cn ?_)
        exact ⟨_, by omega, y + 1, L2, m2, by omega, rfl, by rw [em]; rfl, he, ok2, hs2.mono (by omega), hO, hv2, hw⟩
      · rw [if_neg h2] at hw
        refine mErase_spec ok2 (hs2.mono (by omega)) hO hv2 ?_
        clear hO
        intro H L3 he3 hO hv3
        refine opP_i bin_neq ?_
        refine wIf_dec (fun h3 => ?_) (fun h3 => ?_)
        · rw [if_pos h3] at hw
          try simp only [nth_zero, nth_succ]
          rw [hw] at hk
          exact hk _ L3 (he.trans he3) hO hv3
        · rw [if_neg h3] at hw
          repeat (first | refine oi ?_ | refine ow ?_ | refine wy ?_ | refine wn ?_ | refine wt ?_ | refine wf' ?_ | refine cy ?_ | refine cn ?_)
          exact ⟨_, by omega, y + 1, L3, _, by omega, rfl, by rw [em]; rfl, he.trans he3, Mp.erase_ok ok2, (Mp.erase_sm hs2).mono (by omega), hO, hv3, hw⟩
    · have ey : y = m.size part := by omega
      subst ey
      rw [Nat.sub_self] at hw
      rw [Mp.wipeN_zero] at hw
      rw [hw] at hk
      repeat (first | refine oi ?_ | refine ow ?_ | refine wy ?_ | refine wn ?_ | refine wt ?_ | refine wf' ?_ | refine cy ?_ | refine cn ?_)
      exact hk _ L2 he hO hv2
  · rw [if_pos h] at hk
    rw [decide_eq_false h]
    exact wIf_t rfl (hk _ L Mloc.Eq.rfl' hO hv)
end J
