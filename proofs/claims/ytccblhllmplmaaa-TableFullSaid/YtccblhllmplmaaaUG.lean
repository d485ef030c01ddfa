/- texts of the proof, one behind the other -/
import Derived.Test.YtccblhllmplmaaaUF
set_option linter.unusedVariables false
set_option maxRecDepth 100000
namespace J
open Go Go.Ab
variable {H : Heap} {Γ : List (Nat × Blk)} {K : Value → Heap → Prop} {v w x : Value} {xs ys : List Int}
section
variable {s : Sl} {t : Tb} {c : Ch} {l : List Ch}
end
end J
set_option linter.unusedVariables false
set_option maxRecDepth 100000
namespace J
open Go Go.Ab
variable {H : Heap} {Γ : List (Nat × Blk)} {K : Value → Heap → Prop} {v w x : Value} {xs ys : List Int} {j p : Nat} {e : Int}
theorem rErr_spec (hO : St H Γ) (hj : Γ[j]? = some (p, rdr v e)) (hk : K (int e) H) : wCall P n_code_Reader_Err [ptr p 0] H K := by
  apply code_Reader_Err_ok; unfold code_Reader_Err
  refine opP_i nilCheck_ptr ?_
  refine opP_i offPtr_ptr ?_
  refine load_at hO j hj rfl ?_
  exact hk
def rEnd (xs : List Int) (e : Int) : Int := if e = 0 ∧ 0 < xs.length then 52 else e
theorem rEnd_spec (hO : St H Γ) (hj : Γ[j]? = some (p, rdr v e)) (hv : RdB Γ v xs) (hk : K (int (rEnd xs e)) H) : wCall P n_code_Reader_End [ptr p 0] H K := by
  apply code_Reader_End_ok; unfold code_Reader_End
  refine opP_i nilCheck_ptr ?_
  refine opP_i offPtr_ptr ?_
  refine load_at hO j hj rfl ?_
  refine opP_i bin_eql ?_
  unfold rEnd at hk
  refine wIf_dec (fun h => ?_) (fun h => ?_)
  · refine opP_i nilCheck_ptr ?_
    refine opP_i offPtr_ptr ?_
    refine load_at hO j hj rfl ?_
    refine opW_i hv.lenSl ?_
    repeat (first | refine oi ?_ | refine ow ?_ | refine wy ?_ | refine wn ?_ | refine wt ?_ | refine wf' ?_ | refine cy ?_ | refine cn ?_)
    refine wIf_dec (fun h2 => ?_) (fun h2 => ?_)
    · rw [if_pos ⟨h, by omega⟩] at hk
      exact hk
    · rw [if_neg (by omega)] at hk
      refine opP_i nilCheck_ptr ?_
      refine opP_i offPtr_ptr ?_
      refine load_at hO j hj rfl ?_
      exact hk
  · repeat (first | refine oi ?_ | refine ow ?_ | refine wy ?_ | refine wn ?_ | refine wt ?_ | refine wf' ?_ | refine cy ?_ | refine cn ?_)
    rw [if_neg (fun h' => h h'.1)] at hk
    refine load_at hO j hj rfl ?_
    exact hk
end J
set_option linter.unusedVariables false
set_option maxRecDepth 100000
namespace J
open Go Go.Ab
variable {H : Heap} {Γ : List (Nat × Blk)} {K : Value → Heap → Prop} {v w x : Value} {xs ys : List Int} {j p : Nat} {e : Int}
def slOf (b : List Int) : Sl := ⟨leV (b.take 1), leV ((b.drop 1).take 1), leV ((b.drop 2).take 8), leV ((b.drop 10).take 4), fun i => ((b.drop 14).take 32).getD i 0⟩
def rSlot (xs : List Int) (e : Int) : Sl × Int := if tkE xs e 46 ≠ 0 then (slz 0, tkE xs e 46) else if SRight (slOf (tkB xs e 46)) then (slOf (tkB xs e 46), 0) else (slz 0, 101)
theorem b34 (a b c d : Int) : (buildC P 34).f [(0, int a), (1, int b), (2, .int .u64 c), (3, int d)] = some (agg (slC ⟨a, b, c, d, fun _ => 0⟩)) := by kernel_rfl
theorem copy_by' {o n c i q : Nat} {cs : List Value} {K : Value → Heap → Prop} (hO : St H Γ) (hi : Γ[i]? = some (q, ⟨cs, true⟩)) (hv : RdB Γ v ys) (hn : n = ys.length) (hp : 0 < n) (hl : o + n ≤ cs.length)
    (hk : ∀ H', St H' (Γ.set i (q, ⟨cs.take o ++ (by8 ys ++ cs.drop (o + n)), true⟩)) → K (int n) H') : opW (copyTo 1 (sl q o n c) v H) K := by
  obtain ⟨H', hw, hs⟩ := write_at hO (o := o) (vs := by8 ys) hi (by simp; omega) (by simp [oneCell])
  unfold copyTo
  simp only [hv.lenA]
  have hb : Nat.beq (Nat.min ys.length n) 0 = false := by
    cases hb : Nat.beq (Nat.min ys.length n) 0 with
    | false => rfl
    | true => have := Nat.eq_of_beq_eq_true hb; rw [hn, show Nat.min ys.length ys.length = ys.length from Nat.min_self _] at this; omega
  rw [hb]
  simp only [Bool.false_eq_true, if_false]
  have hm : Nat.min ys.length n = ys.length := by rw [hn]; exact Nat.min_self _
  rw [hm, hv.elems hO]
  simp only
  rw [hw]
  refine opW_i (show some (Value.int .i64 ((ys.length : Nat) : Int), H') = _ from rfl) ?_
  rw [List.length_map, ← hn] at hs
  rw [← hn]
  exact hk _ hs
set_option maxHeartbeats 4000000 in
theorem slot_Read_spec (hO : St H Γ) (hj : Γ[j]? = some (p, rdr v e)) (hv : RdB Γ v xs) (hx : xs.length ≤ 1000000) (hb : ∀ x ∈ xs, 0 ≤ x ∧ x ≤ 255)
    (hk : ∀ H' v2, St H' (rdN Γ j p xs e 46 v2) → Inh v xs v2 (tkR xs e 46) → K (.tuple [agg (slC (rSlot xs e).1), int (rSlot xs e).2].toArray) H') : wCall P n_slot_Read [ptr p 0] H K := by
  apply slot_Read_ok; unfold slot_Read
  have hjl := (List.getElem?_eq_some_iff.1 hj).1
  rw [zc26]
  refine new_at hO ?_
  intro q H hO
  refine rRaw_spec (n := 46) hO (at_l hj) hv.app (by omega) hx ?_
  intro H v2 v' cs' hO r2' hv'
  unfold rdN at hO
  rw [List.set_append_left _ _ hjl] at hO
  have hk := hk (v2 := v2)
  have hj2 := set_at (y := (p, rdr v2 (tkE xs e 46))) hj
  have hbb := RdB.bytes hb 46 e
  unfold rdN rSlot at hk
  generalize hΓ2 : Γ.set j (p, rdr v2 (tkE xs e 46)) = Γ2 at *
  have hO : St H ((Γ2 ++ [(q, ⟨slC (slz 0), true⟩)]) ++ outB v' cs') := hO
  refine rErr_spec hO (at_l (at_l hj2)) ?_
  refine opP_i bin_neq ?_
  refine wIf_dec (fun h => ?_) (fun h => ?_)
  · rw [if_pos h] at hk
    refine opP_i b26 ?_
    refine storeAll_at hO (Γ2.length + 0) (at_l (at_r rfl)) rfl rfl rfl ?_
    intro H hO
    replace hO : St H (Γ2.set j (p, rdr v2 (tkE xs e 46)) ++ [(q, ⟨slC (slz 0), true⟩)]) := by
      rw [List.set_append_left _ _ (by simp), show Γ2.length + 0 = Γ2.length + 0 from rfl, Go.Ab.set_r] at hO
      rw [set_same hj2]
      exact hO.left
    rw [set_same hj2] at hO
    refine loadAll_at hO (Γ2.length + 0) (at_r rfl) rfl (by omega) ?_
    exact hk _ hO.left r2'
  · rw [if_neg h] at hk
    have hg : e = 0 ∧ 46 ≤ xs.length := by
      by_cases hg : e = 0 ∧ 46 ≤ xs.length
      · exact hg
      · exfalso; apply h; unfold tkE; rw [if_neg hg]; split <;> omega
    have hlen : (tkB xs e 46).length = 46 := by unfold tkB; rw [if_pos hg, List.length_take]; omega
    have he0 : tkE xs e 46 = 0 := by unfold tkE; rw [if_pos hg]
    generalize tkB xs e 46 = bs at *
    obtain ⟨X, hX⟩ : ∃ X, X = (Γ2 ++ [(q, ⟨slC (slz 0), true⟩)]) ++ outB v' cs' := ⟨_, rfl⟩
    rw [← hX] at hO
    have hv0 : RdB X v' bs := by rw [hX]; exact hv'.rd.app'
    refine New_spec hO hv0 ?_
    clear hO
    intro H pr hO
    have step : ∀ {H : Heap} {vv : Value} {zs : List Int} {k : Nat} {K' : Value → Heap → Prop}, k ≤ 8 → k ≤ zs.length → (∀ x ∈ zs, 0 ≤ x ∧ x ≤ 255) → St H (X ++ [(pr, rdr vv 0)]) → RdB X vv zs → (∀ H' v3, St H' (X ++ [(pr, rdr v3 0)]) → RdB X v3 (zs.drop k) → K' (uint .u64 (leV (zs.take k))) H') → wCall P n_code_Reader_Fixed [ptr pr 0, int k] H K' := by
      intro H vv zs k K' h8 hkz hz hO hr hkk
      obtain ⟨t1, t2, t3⟩ := tk_ok hkz
      refine rFixed_spec h8 hO (at_r (k := 0) rfl) hr.app hz ?_
      rw [t1, t2, t3]
      intro H' v3 hO' hr'
      rw [Go.Ab.set_r] at hO'
      exact hkk _ v3 hO' (hr' _ hr)
    have hv1 : ∀ k, ∀ x ∈ bs.drop k, 0 ≤ x ∧ x ≤ 255 := fun k x hx => hbb x (List.mem_of_mem_drop hx)
    have hlt : ∀ k, leV ((bs.drop k).take 1) < 256 := fun k => by
      have := leV_lt ((bs.drop k).take 1) fun x hx => hv1 k x (List.mem_of_mem_take hx)
      have h2 : (256 : Nat) ^ ((bs.drop k).take 1).length ≤ 256 ^ 1 := Nat.pow_le_pow_right (by omega) (by rw [List.length_take]; omega)
      omega
    have hlt4 : leV ((bs.drop 10).take 4) < 4294967296 := by
      have := leV_lt ((bs.drop 10).take 4) fun x hx => hv1 10 x (List.mem_of_mem_take hx)
      have h2 : (256 : Nat) ^ ((bs.drop 10).take 4).length ≤ 256 ^ 4 := Nat.pow_le_pow_right (by omega) (by rw [List.length_take]; omega)
      omega
    refine step (k := 1) (by omega) (by omega) hbb hO hv0 ?_
    clear hO
    intro H w1 hO a1
    have l0 := hlt 0
    have l1 := hlt 1
    rw [List.drop_zero] at l0
    refine opW_i (cvUi (by omega)) ?_
    refine step (k := 1) (by omega) (by rw [List.length_drop]; omega) (hv1 1) hO a1 ?_
    clear hO
    intro H w2 hO a2
    rw [List.drop_drop] at a2
    refine opW_i (cvUi (by omega)) ?_
    refine step (k := 8) (by omega) (by rw [List.length_drop]; omega) (hv1 2) hO a2 ?_
    clear hO
    intro H w3 hO a3
    rw [List.drop_drop] at a3
    refine step (k := 4) (by omega) (by rw [List.length_drop]; omega) (hv1 10) hO a3 ?_
    clear hO
    intro H w4 hO a4
    rw [List.drop_drop] at a4
    refine opW_i (cvUi (by omega)) ?_
    refine opP_i (b34 _ _ _ _) ?_
    refine new_at hO ?_
    intro p7 H hO
    rw [List.append_assoc] at hO
    refine storeAll_at hO (X.length + 1) (at_r rfl) rfl rfl rfl ?_
    intro H hO
    obtain ⟨s0, hs0⟩ : ∃ s0 : Sl, s0 = ⟨leV (bs.take 1), leV ((bs.drop 1).take 1), leV ((bs.drop 2).take 8), leV ((bs.drop 10).take 4), fun _ => 0⟩ := ⟨_, rfl⟩
    rw [← hs0] at hO
    replace hO : St H (X ++ [(pr, rdr w4 0), (p7, ⟨slC s0, true⟩)]) := hO.set_r
    refine opP_i offPtr_ptr ?_
    refine opP_i (slice_arr hO (X.length + 1) (at_r rfl) (by omega) (show 0 + 4 + 32 ≤ (slC s0).length from Nat.le_refl _)) ?_
    obtain ⟨t1, t2, t3⟩ := tk_ok (xs := bs.drop 14) (n := 32) (by rw [List.length_drop]; omega)
    refine rRaw_spec (n := 32) hO (at_r (k := 0) rfl) a4.app (by omega) (by rw [List.length_drop]; omega) ?_
    rw [t1]
    intro H2 w5 v5 c5 hO2 a5 h5
    unfold rdN at hO2
    rw [t3, Go.Ab.set_r] at hO2
    replace hO2 : St H2 ((X ++ [(pr, rdr w5 0), (p7, ⟨slC s0, true⟩)]) ++ outB v5 c5) := hO2
    refine ⟨same_at hO (X.length + 1) (at_r rfl) hO2 (X.length + 1) (at_l (at_r rfl)) rfl, ?_⟩
    clear hO
    have h32 : ((bs.drop 14).take 32).length = 32 := by rw [List.length_take, List.length_drop]; omega
    refine copy_by' hO2 (at_l (at_r (k := 1) rfl)) (h5.rd.app') h32.symm (by omega) (show 0 + 4 + 32 ≤ (slC s0).length from Nat.le_refl _) ?_
    intro H hO
    rw [List.set_append_left _ _ (by simp), Go.Ab.set_r] at hO
    have hcell : (slC s0).take (0 + 4) ++ (by8 ((bs.drop 14).take 32) ++ (slC s0).drop (0 + 4 + 32)) = slC (slOf bs) := by
      rw [by8, dgC_eq _ h32, hs0]; rfl
    rw [hcell] at hO
    replace hO : St H (X ++ [(pr, rdr w5 0), (p7, ⟨slC (slOf bs), true⟩)]) := hO.left
    refine loadAll_at hO (X.length + 1) (at_r rfl) rfl (by omega) ?_
    refine slot_Right_spec hO ?_
    intro H hO
    rw [hX, List.append_assoc, List.append_assoc] at hO
    by_cases hr : SRight (slOf bs)
    · rw [if_pos hr] at hk
      rw [decide_eq_true hr]
      repeat (first | refine oi ?_ | refine ow ?_ | refine wy ?_ | refine wn ?_ | refine wt ?_ | refine wf' ?_ | refine cy ?_ | refine cn ?_)
      have hO' : St H (X ++ [(pr, rdr w5 0), (p7, ⟨slC (slOf bs), true⟩)]) := by rw [hX, List.append_assoc, List.append_assoc]; exact hO
      refine loadAll_at hO' (X.length + 1) (at_r rfl) rfl (by omega) ?_
      refine storeAll_at hO (Γ2.length + 0) (at_r rfl) rfl rfl rfl ?_
      intro H hO
      replace hO := hO.set_r
      refine loadAll_at hO (Γ2.length + 0) (at_r rfl) rfl (by omega) ?_
      exact hk _ hO.left r2'
    · rw [if_neg hr] at hk
      rw [decide_eq_false hr]
      repeat (first | refine oi ?_ | refine ow ?_ | refine wy ?_ | refine wn ?_ | refine wt ?_ | refine wf' ?_ | refine cy ?_ | refine cn ?_)
      refine opP_i b26 ?_
      refine storeAll_at hO (Γ2.length + 0) (at_r rfl) rfl rfl rfl ?_
      intro H hO
      replace hO := hO.set_r
      refine loadAll_at hO (Γ2.length + 0) (at_r rfl) rfl (by omega) ?_
      exact hk _ hO.left r2'
end J
set_option linter.unusedVariables false
set_option maxRecDepth 100000
namespace J
open Go Go.Ab
variable {H : Heap} {Γ : List (Nat × Blk)} {K : Value → Heap → Prop} {v w x : Value} {xs ys : List Int} {j p : Nat} {e : Int}
end J
set_option linter.unusedVariables false
set_option maxRecDepth 100000
namespace J
open Go Go.Ab
variable {H : Heap} {Γ : List (Nat × Blk)} {K : Value → Heap → Prop} {v w x : Value} {xs ys bs : List Int} {j p : Nat} {e : Int}
def tabOf (bs : List Int) : Tb := ⟨slOf (bs.take 46), slOf ((bs.drop 46).take 46), leV ((bs.drop 92).take 1), ((leV ((bs.drop 93).take 1) : Nat) : Int) - 1, leV ((bs.drop 94).take 8)⟩
def tParse (bs : List Int) : Tb × Int := if bs.length = 102 ∧ TRight (tabOf bs) then (tabOf bs, 0) else (tbz, 111)
theorem tk_bad {n : Nat} (h : e ≠ 0) : tkB xs e n = [] ∧ tkR xs e n = [] ∧ tkE xs e n = e := by
  unfold tkB tkR tkE
  rw [if_neg (fun h' => h h'.1), if_neg (fun h' => h h'.1), if_neg (fun h' => h h'.1), if_neg h]
  exact ⟨rfl, rfl, rfl⟩
theorem tk_short {n : Nat} (h : xs.length < n) : tkB xs 0 n = [] ∧ tkR xs 0 n = [] ∧ tkE xs 0 n = 51 := by
  unfold tkB tkR tkE
  rw [if_neg (by omega), if_neg (by omega), if_neg (by omega), if_pos rfl]
  exact ⟨rfl, rfl, rfl⟩
theorem tkR_bytes (hb : ∀ x ∈ xs, 0 ≤ x ∧ x ≤ 255) (n : Nat) (e : Int) : ∀ x ∈ tkR xs e n, 0 ≤ x ∧ x ≤ 255 := by
  unfold tkR
  split
  · exact fun x hx => hb x (List.mem_of_mem_drop hx)
  · simp
theorem tkR_len (xs : List Int) (e : Int) (n : Nat) : (tkR xs e n).length ≤ xs.length := by
  unfold tkR
  split
  · rw [List.length_drop]; omega
  · simp
theorem tkB_lt (hb : ∀ x ∈ xs, 0 ≤ x ∧ x ≤ 255) (e : Int) (n : Nat) : leV (tkB xs e n) < 256 ^ n := by
  have h1 := leV_lt (tkB xs e n) (RdB.bytes hb n e)
  have h2 : (256 : Nat) ^ (tkB xs e n).length ≤ 256 ^ n := Nat.pow_le_pow_right (by omega) (tkB_len xs e n)
  omega
theorem end3 (zs : List Int) : rEnd (tkR (tkR (tkR zs 0 1) (tkE zs 0 1) 1) (tkE (tkR zs 0 1) (tkE zs 0 1) 1) 8) (tkE (tkR (tkR zs 0 1) (tkE zs 0 1) 1) (tkE (tkR zs 0 1) (tkE zs 0 1) 1) 8) = 0 ↔ zs.length = 10 := by
  by_cases h1 : 1 ≤ zs.length
  · obtain ⟨_, a2, a3⟩ := tk_ok h1
    rw [a2, a3]
    have l1 : (zs.drop 1).length = zs.length - 1 := List.length_drop
    by_cases h2 : 1 ≤ (zs.drop 1).length
    · obtain ⟨_, b2, b3⟩ := tk_ok h2
      rw [b2, b3, List.drop_drop]
      have l2 : (zs.drop (1 + 1)).length = zs.length - 2 := by rw [List.length_drop]
      by_cases h3 : 8 ≤ (zs.drop (1 + 1)).length
      · obtain ⟨_, c2, c3⟩ := tk_ok h3
        rw [c2, c3]
        unfold rEnd
        rw [List.length_drop]
        by_cases h4 : 0 < (zs.drop (1 + 1)).length - 8
        · rw [if_pos ⟨rfl, h4⟩]; omega
        · rw [if_neg (by omega)]; omega
      · obtain ⟨_, c2, c3⟩ := tk_short (by omega : (zs.drop (1 + 1)).length < 8)
        rw [c2, c3]
        unfold rEnd
        rw [if_neg (by omega)]; omega
    · obtain ⟨_, b2, b3⟩ := tk_short (by omega : (zs.drop 1).length < 1)
      rw [b2, b3]
      obtain ⟨_, c2, c3⟩ := tk_bad (xs := []) (n := 8) (show (51 : Int) ≠ 0 by decide)
      rw [c2, c3]
      unfold rEnd
      rw [if_neg (by omega)]; omega
  · obtain ⟨_, a2, a3⟩ := tk_short (by omega : zs.length < 1)
    rw [a2, a3]
    obtain ⟨_, b2, b3⟩ := tk_bad (xs := []) (n := 1) (show (51 : Int) ≠ 0 by decide)
    rw [b2, b3]
    obtain ⟨_, c2, c3⟩ := tk_bad (xs := []) (n := 8) (show (51 : Int) ≠ 0 by decide)
    rw [c2, c3]
    unfold rEnd
    rw [if_neg (by omega)]; omega
theorem rSlot_ok (h : 46 ≤ xs.length) : rSlot xs 0 = if SRight (slOf (xs.take 46)) then (slOf (xs.take 46), 0) else (slz 0, 101) := by
  obtain ⟨k1, k2, k3⟩ := tk_ok h
  unfold rSlot
  rw [k1, k3, if_neg (fun h => h rfl)]
theorem rSlot_short (h : xs.length < 46) : rSlot xs 0 = (slz 0, 51) := by
  obtain ⟨k1, k2, k3⟩ := tk_short h
  unfold rSlot
  rw [k3, if_pos (by decide)]
set_option maxHeartbeats 8000000 in
theorem table_Parse_spec (hO : St H Γ) (hv : RdB Γ v bs) (hx : bs.length ≤ 1000000) (hb : ∀ x ∈ bs, 0 ≤ x ∧ x ≤ 255)
    (hk : ∀ H', St H' Γ → K (.tuple [agg (tbC (tParse bs).1), int (tParse bs).2].toArray) H') : wCall P n_table_Parse [v] H K := by
  apply table_Parse_ok; unfold table_Parse
  rw [zc29]
  refine new_at hO ?_
  intro q H hO
  refine New_spec hO hv.app ?_
  clear hO
  intro H pr hO
  rw [List.append_assoc] at hO
  refine new_at hO ?_
  clear hO
  intro p5 H hO
  rw [List.append_assoc] at hO
  have hO : St H (Γ ++ [(q, ⟨tbC tbz, true⟩), (pr, rdr v 0), (p5, ⟨tbC tbz, true⟩)]) := hO
  have bad : (¬ (bs.length = 102 ∧ TRight (tabOf bs))) → ∀ H', St H' Γ → K (.tuple [agg (tbC tbz), int 111].toArray) H' := fun h H' hO' => by
    have := hk _ hO'
    unfold tParse at this
    rw [if_neg h] at this
    exact this
  refine table_Parse_L0_ind (fun k l' H' => ∃ (y : Nat) (vv : Value) (t : Tb), y ≤ 2 ∧ k = 2 - y ∧ l' = [ptr q 0, int 0, ptr pr 0, ptr p5 0, int y] ∧ St H' (Γ ++ [(q, ⟨tbC tbz, true⟩), (pr, rdr vv 0), (p5, ⟨tbC t, true⟩)]) ∧ RdB Γ vv (bs.drop (46 * y)) ∧ 46 * y ≤ bs.length ∧ (1 ≤ y → t.a = slOf (bs.take 46)) ∧ (2 ≤ y → t.b = slOf ((bs.drop 46).take 46))) _ _ ?_ 2 _ _ ⟨0, v, tbz, by omega, by omega, rfl, hO, hv, by omega, (by omega), (by omega)⟩
  clear hO
  rintro k l' H' ⟨y, vv, t, hy, rfl, rfl, hO, hvv, hyl, ha1, ha2⟩
  unfold table_Parse_L0
  try simp only [nth_zero, nth_succ]
  repeat (first | refine oi ?_ | refine ow ?_ | refine wy ?_ | refine wn ?_ | refine wt ?_ | refine wf' ?_ | refine cy ?_ | refine cn ?_)
  have hzb : ∀ x ∈ bs.drop (46 * y), 0 ≤ x ∧ x ≤ 255 := fun x hx => hb x (List.mem_of_mem_drop hx)
  refine wIf_dec (fun h => ?_) (fun h => ?_)
  · refine slot_Read_spec hO (at_r (k := 1) rfl) hvv.app (by rw [List.length_drop]; omega) hzb ?_
    intro H v2 hO2 hi2
    unfold rdN at hO2
    rw [Go.Ab.set_r] at hO2
    refine opP_i ext0 ?_
    refine opP_i ext1 ?_
    rw [zc26]
    refine new_at hO2 ?_
    intro p7 H hO3
    rw [List.append_assoc] at hO3
    refine storeAll_at hO3 (Γ.length + 3) (at_r rfl) rfl rfl rfl ?_
    intro H hO4
    replace hO4 : St H (Γ ++ [(q, ⟨tbC tbz, true⟩), (pr, rdr v2 (tkE (bs.drop (46 * y)) 0 46)), (p5, ⟨tbC t, true⟩), (p7, ⟨slC (rSlot (bs.drop (46 * y)) 0).1, true⟩)]) := hO4.set_r
    have hix : Ix (y : Int) := by unfold Ix; omega
    have hxb := hix.bd
    by_cases hlen : 46 ≤ (bs.drop (46 * y)).length
    · obtain ⟨k1, k2, k3⟩ := tk_ok hlen
      rw [k3] at hO4
      rw [rSlot_ok hlen] at hO4 ⊢
      by_cases hr : SRight (slOf ((bs.drop (46 * y)).take 46))
      · rw [if_pos hr] at hO4 ⊢
        repeat (first | refine oi ?_ | refine ow ?_ | refine wy ?_ | refine wn ?_ | refine wt ?_ | refine wf' ?_ | refine cy ?_ | refine cn ?_ | refine ld hO 0 rfl rfl ?_ | refine ld hO 1 rfl rfl ?_ | refine ld hO 2 rfl rfl ?_ | refine ld hO 3 rfl rfl ?_ | refine ld hO 4 rfl rfl ?_ | refine ld hO 5 rfl rfl ?_)
        refine loadAll_at hO4 (Γ.length + 3) (at_r rfl) rfl (by omega) ?_
        repeat (first | refine oi ?_ | refine ow ?_ | refine wy ?_ | refine wn ?_ | refine wt ?_ | refine wf' ?_ | refine cy ?_ | refine cn ?_ | refine ld hO 0 rfl rfl ?_ | refine ld hO 1 rfl rfl ?_ | refine ld hO 2 rfl rfl ?_ | refine ld hO 3 rfl rfl ?_ | refine ld hO 4 rfl rfl ?_ | refine ld hO 5 rfl rfl ?_)
        refine store_slot (t := t) (x := (y : Int)) hO4 (Γ.length + 2) (at_r rfl) hix (by omega) ?_
        intro H hO5
        repeat (first | refine oi ?_ | refine ow ?_ | refine wy ?_ | refine wn ?_ | refine wt ?_ | refine wf' ?_ | refine cy ?_ | refine cn ?_ | refine ld hO 0 rfl rfl ?_ | refine ld hO 1 rfl rfl ?_ | refine ld hO 2 rfl rfl ?_ | refine ld hO 3 rfl rfl ?_ | refine ld hO 4 rfl rfl ?_ | refine ld hO 5 rfl rfl ?_)
        rw [List.length_drop] at hlen
        refine ⟨_, by omega, y + 1, v2, t.put y (slOf ((bs.drop (46 * y)).take 46)), by omega, rfl, rfl, hO5.set_r.keep 3, ?_, by omega, fun _ => ?_, fun h2 => ?_⟩
        · have := hi2 _ hvv
          rw [k2, List.drop_drop] at this
          rw [show 46 * (y + 1) = 46 * y + 46 by omega]
          exact this
        · match y, h with
          | 0, _ => rfl
          | 1, _ => exact ha1 (by omega)
        · have : y = 1 := by omega
          subst this
          rfl
      · rw [if_neg hr] at hO4 ⊢
        repeat (first | refine oi ?_ | refine ow ?_ | refine wy ?_ | refine wn ?_ | refine wt ?_ | refine wf' ?_ | refine cy ?_ | refine cn ?_ | refine ld hO 0 rfl rfl ?_ | refine ld hO 1 rfl rfl ?_ | refine ld hO 2 rfl rfl ?_ | refine ld hO 3 rfl rfl ?_ | refine ld hO 4 rfl rfl ?_ | refine ld hO 5 rfl rfl ?_)
        refine opP_i b29 ?_
        refine storeAll_at hO4 (Γ.length + 0) (at_r rfl) rfl rfl rfl ?_
        intro H hO5
        replace hO5 := hO5.set_r
        try simp only [nth_zero, nth_succ]
        refine loadAll_at hO5 (Γ.length + 0) (at_r rfl) rfl (by omega) ?_
        refine bad (fun hh => hr ?_) _ hO5.left
        match y, h with
        | 0, _ => exact hh.2.1
        | 1, _ => exact hh.2.2.1
    · obtain ⟨k1, k2, k3⟩ := tk_short (by omega : (bs.drop (46 * y)).length < 46)
      rw [k3] at hO4
      rw [rSlot_short (by omega)] at hO4 ⊢
      repeat (first | refine oi ?_ | refine ow ?_ | refine wy ?_ | refine wn ?_ | refine wt ?_ | refine wf' ?_ | refine cy ?_ | refine cn ?_ | refine ld hO 0 rfl rfl ?_ | refine ld hO 1 rfl rfl ?_ | refine ld hO 2 rfl rfl ?_ | refine ld hO 3 rfl rfl ?_ | refine ld hO 4 rfl rfl ?_ | refine ld hO 5 rfl rfl ?_)
      refine opP_i b29 ?_
      refine storeAll_at hO4 (Γ.length + 0) (at_r rfl) rfl rfl rfl ?_
      intro H hO5
      replace hO5 := hO5.set_r
      try simp only [nth_zero, nth_succ]
      refine loadAll_at hO5 (Γ.length + 0) (at_r rfl) rfl (by omega) ?_
      rw [List.length_drop] at hlen
      exact bad (fun hh => by omega) _ hO5.left
  · have hy2 : y = 2 := by omega
    subst hy2
    have ha := ha1 (by omega)
    have hb2 := ha2 (by omega)
    repeat (first | refine oi ?_ | refine ow ?_ | refine wy ?_ | refine wn ?_ | refine wt ?_ | refine wf' ?_ | refine cy ?_ | refine cn ?_)
    try simp only [nth_zero, nth_succ]
    have hzl : (bs.drop (46 * 2)).length = bs.length - 92 := by rw [List.length_drop]
    have he3 := end3 (bs.drop (46 * 2))
    have v1 : 10 = (bs.drop (46 * 2)).length → tkB (bs.drop (46 * 2)) 0 1 = (bs.drop 92).take 1 ∧ tkB (tkR (bs.drop (46 * 2)) 0 1) (tkE (bs.drop (46 * 2)) 0 1) 1 = (bs.drop 93).take 1 ∧ tkB (tkR (tkR (bs.drop (46 * 2)) 0 1) (tkE (bs.drop (46 * 2)) 0 1) 1) (tkE (tkR (bs.drop (46 * 2)) 0 1) (tkE (bs.drop (46 * 2)) 0 1) 1) 8 = (bs.drop 94).take 8 := by
      intro hl
      obtain ⟨a1, a2, a3⟩ := tk_ok (xs := bs.drop (46 * 2)) (n := 1) (by omega)
      rw [a1, a2, a3, List.drop_drop]
      obtain ⟨b1, b2, b3⟩ := tk_ok (xs := bs.drop (46 * 2 + 1)) (n := 1) (by rw [List.length_drop]; omega)
      rw [b1, b2, b3, List.drop_drop]
      obtain ⟨c1, _, _⟩ := tk_ok (xs := bs.drop (46 * 2 + 1 + 1)) (n := 8) (by rw [List.length_drop]; omega)
      rw [c1]
      exact ⟨rfl, rfl, rfl⟩
    generalize hzs : bs.drop (46 * 2) = zs at *
    refine rFixed_spec (k := 1) (by omega) hO (at_r (k := 1) rfl) hvv.app hzb ?_
    intro H w1 hO1 i1
    rw [Go.Ab.set_r] at hO1
    have hb1 := tkR_bytes hzb 1 0
    have hl1 := tkB_lt hzb 0 1
    refine opW_i (cvUi (by omega)) ?_
    refine rFixed_spec (k := 1) (by omega) hO1 (at_r (k := 1) rfl) (i1 _ hvv).app hb1 ?_
    intro H w2 hO2 i2
    rw [Go.Ab.set_r] at hO2
    have hbb2 := tkR_bytes hb1 1 (tkE zs 0 1)
    have hl2 := tkB_lt hb1 (tkE zs 0 1) 1
    refine opW_i (cvUi (by omega)) ?_
    repeat (first | refine oi ?_ | refine ow ?_ | refine wy ?_ | refine wn ?_ | refine wt ?_ | refine wf' ?_ | refine cy ?_ | refine cn ?_)
    refine store1_at hO2 (Γ.length + 2) (at_r rfl) rfl (show 0 + 72 < 75 by omega) (show _ = tbC { t with act := leV (tkB zs 0 1) } from rfl) ?_
    intro H hO3
    replace hO3 := hO3.set_r
    repeat (first | refine oi ?_ | refine ow ?_ | refine wy ?_ | refine wn ?_ | refine wt ?_ | refine wf' ?_ | refine cy ?_ | refine cn ?_)
    refine store1_at hO3 (Γ.length + 2) (at_r rfl) rfl (show 0 + 73 < 75 by omega) (show _ = tbC { t with act := leV (tkB zs 0 1), boo := ((leV (tkB (tkR zs 0 1) (tkE zs 0 1) 1) : Nat) : Int) + -1 } from rfl) ?_
    intro H hO4
    replace hO4 := hO4.set_r
    refine rFixed_spec (k := 8) (by omega) hO4 (at_r (k := 1) rfl) (i2 _ (i1 _ hvv)).app hbb2 ?_
    intro H w3 hO5 i3
    rw [Go.Ab.set_r] at hO5
    repeat (first | refine oi ?_ | refine ow ?_ | refine wy ?_ | refine wn ?_ | refine wt ?_ | refine wf' ?_ | refine cy ?_ | refine cn ?_)
    obtain ⟨t', ht'⟩ : ∃ t' : Tb, t' = { t with act := leV (tkB zs 0 1), boo := ((leV (tkB (tkR zs 0 1) (tkE zs 0 1) 1) : Nat) : Int) + -1, flo := leV (tkB (tkR (tkR zs 0 1) (tkE zs 0 1) 1) (tkE (tkR zs 0 1) (tkE zs 0 1) 1) 8) } := ⟨_, rfl⟩
    refine store1_at hO5 (Γ.length + 2) (at_r rfl) rfl (show 0 + 74 < 75 by omega) (show _ = tbC t' by rw [ht']; rfl) ?_
    intro H hO6
    replace hO6 := hO6.set_r
    have hzz := i3 _ (i2 _ (i1 _ hvv))
    have htab : 10 = zs.length → t' = tabOf bs := by
      intro hl
      obtain ⟨c1, c2, c3⟩ := v1 hl
      rw [ht', c1, c2, c3]
      unfold tabOf
      obtain ⟨ta, tb', tact, tboo, tflo⟩ := t
      have ha : ta = slOf (bs.take 46) := ha
      have hb2 : tb' = slOf ((bs.drop 46).take 46) := hb2
      rw [ha, hb2, show bs.drop 92 = zs from hzs]
      show (⟨_, _, _, _, _⟩ : Tb) = _
      rw [show ∀ a : Int, a + -1 = a - 1 from fun a => rfl]
    clear ht'
    generalize tkE (tkR (tkR zs 0 1) (tkE zs 0 1) 1) (tkE (tkR zs 0 1) (tkE zs 0 1) 1) 8 = e3 at *
    generalize tkR (tkR (tkR zs 0 1) (tkE zs 0 1) 1) (tkE (tkR zs 0 1) (tkE zs 0 1) 1) 8 = z3 at *
    replace hO6 : St H (Γ ++ [(q, ⟨tbC tbz, true⟩), (pr, rdr w3 e3), (p5, ⟨tbC t', true⟩)]) := hO6
    refine join_with (fun l' H' => l' = [ptr q 0, ptr p5 0, .bool (decide (¬ (bs.length = 102 ∧ TRight (tabOf bs))))] ∧ St H' (Γ ++ [(q, ⟨tbC tbz, true⟩), (pr, rdr w3 e3), (p5, ⟨tbC t', true⟩)])) ?_ ?_
    · refine rEnd_spec hO6 (at_r (k := 1) rfl) hzz.app ?_
      refine opP_i bin_neq ?_
      by_cases h10 : zs.length = 10
      · have hbl : bs.length = 102 := by omega
        rw [decide_eq_false (show ¬ (rEnd z3 e3 ≠ 0) from fun h => h (he3.2 h10))]
        repeat (first | refine oi ?_ | refine ow ?_ | refine wy ?_ | refine wn ?_ | refine wt ?_ | refine wf' ?_ | refine cy ?_ | refine cn ?_)
        refine loadAll_at hO6 (Γ.length + 2) (at_r rfl) rfl (by omega) ?_
        refine table_Right_spec hO6 ?_
        intro H hO7
        repeat (first | refine oi ?_ | refine ow ?_ | refine wy ?_ | refine wn ?_ | refine wt ?_ | refine wf' ?_ | refine cy ?_ | refine cn ?_)
        refine ⟨?_, hO7⟩
        rw [htab h10.symm]
        by_cases hr : TRight (tabOf bs) <;> simp [hr, hbl]
      · rw [decide_eq_true (show rEnd z3 e3 ≠ 0 from fun h => h10 (he3.1 h))]
        repeat (first | refine oi ?_ | refine ow ?_ | refine wy ?_ | refine wn ?_ | refine wt ?_ | refine wf' ?_ | refine cy ?_ | refine cn ?_)
        refine ⟨?_, hO6⟩
        rw [decide_eq_true (show ¬ (bs.length = 102 ∧ TRight (tabOf bs)) by omega)]
    clear hO6
    rintro l' H ⟨rfl, hO6⟩
    try simp only [nth_zero, nth_succ]
    refine wIf_dec (fun h => ?_) (fun h => ?_)
    · refine opP_i b29 ?_
      refine storeAll_at hO6 (Γ.length + 0) (at_r rfl) rfl rfl rfl ?_
      intro H hO7
      replace hO7 := hO7.set_r
      refine loadAll_at hO7 (Γ.length + 0) (at_r rfl) rfl (by omega) ?_
      exact bad h _ hO7.left
    · have h := Decidable.not_not.1 h
      refine loadAll_at hO6 (Γ.length + 2) (at_r rfl) rfl (by omega) ?_
      refine storeAll_at hO6 (Γ.length + 0) (at_r rfl) rfl rfl rfl ?_
      intro H hO7
      replace hO7 := hO7.set_r
      refine loadAll_at hO7 (Γ.length + 0) (at_r rfl) rfl (by omega) ?_
      have := hk _ hO7.left
      unfold tParse at this
      rw [if_pos h, ← htab (by omega)] at this
      exact this
end J
set_option linter.unusedVariables false
set_option maxRecDepth 100000
namespace J
open Go Go.Ab
variable {xs ys zs bs : List Int} {e : Int} {c : Ch} {l : List Ch} {k n : Nat}
abbrev numB (xs : List Int) (e : Int) (n : Nat) : Nat := leV (tkB xs e n)
def dec (xs : List Int) (e : Int) : Ch × List Int × Int × Int :=
  if numB xs e 1 = 1 then (⟨1, numB (tkR xs e 1) (tkE xs e 1) 1, 0, (rSlot (tkR (tkR xs e 1) (tkE xs e 1) 1) (tkE (tkR xs e 1) (tkE xs e 1) 1)).1, 0⟩, tkR (tkR (tkR xs e 1) (tkE xs e 1) 1) (tkE (tkR xs e 1) (tkE xs e 1) 1) 46, tkE (tkR (tkR xs e 1) (tkE xs e 1) 1) (tkE (tkR xs e 1) (tkE xs e 1) 1) 46, (rSlot (tkR (tkR xs e 1) (tkE xs e 1) 1) (tkE (tkR xs e 1) (tkE xs e 1) 1)).2)
  else if numB xs e 1 = 2 then (⟨2, 0, numB (tkR xs e 1) (tkE xs e 1) 1, slz 0, 0⟩, tkR (tkR xs e 1) (tkE xs e 1) 1, tkE (tkR xs e 1) (tkE xs e 1) 1, 0)
  else if numB xs e 1 = 3 then (⟨3, 0, (numB (tkR xs e 1) (tkE xs e 1) 1 : Int) - 1, slz 0, 0⟩, tkR (tkR xs e 1) (tkE xs e 1) 1, tkE (tkR xs e 1) (tkE xs e 1) 1, 0)
  else if numB xs e 1 = 4 then (⟨4, 0, 0, slz 0, numB (tkR xs e 1) (tkE xs e 1) 8⟩, tkR (tkR xs e 1) (tkE xs e 1) 8, tkE (tkR xs e 1) (tkE xs e 1) 8, 0)
  else (⟨numB xs e 1, 0, 0, slz 0, 0⟩, tkR xs e 1, tkE xs e 1, 0)
def DOk (d : Ch × List Int × Int × Int) : Prop := d.2.2.2 = 0 ∧ d.2.2.1 = 0 ∧ CRight d.1
instance (d : Ch × List Int × Int × Int) : Decidable (DOk d) := by unfold DOk; infer_instance
def pGo : Nat → List Int → Int → Option (List Ch × List Int × Int)
  | 0, xs, e => some ([], xs, e)
  | k + 1, xs, e => if DOk (dec xs e) then (pGo k (dec xs e).2.1 (dec xs e).2.2.1).map fun r => ((dec xs e).1 :: r.1, r.2) else none
def rGo : Nat → List Int → Int → List Ch × List Int × Int
  | 0, xs, e => ([], xs, e)
  | k + 1, xs, e => ((dec xs e).1 :: (rGo k (dec xs e).2.1 (dec xs e).2.2.1).1, (rGo k (dec xs e).2.1 (dec xs e).2.2.1).2)
def tGet (bs : List Int) : List Ch × Int := if numB bs 0 1 ≤ 8 then (match pGo (numB bs 0 1) (tkR bs 0 1) (tkE bs 0 1) with
  | some r => if rEnd r.2.1 r.2.2 = 0 then (r.1, 0) else ([], 111)
  | none => ([], 111)) else ([], 111)
theorem leN_cons (n a y : Nat) (h : a < 256) : leN (y + 1) (a + 256 * n) = (a : Int) :: leN y n := by
  unfold leN
  rw [List.range_succ_eq_map, List.map_cons, List.map_map]
  congr 1
  · simp; omega
  · apply List.map_congr_left
    intro i _
    show (((a + 256 * n) / 256 ^ (i + 1) % 256 : Nat) : Int) = _
    rw [Nat.pow_succ, Nat.mul_comm (256 ^ i) 256, ← Nat.div_div_eq_div_mul, show (a + 256 * n) / 256 = n by omega]
theorem leN_leV : ∀ (bs : List Int), By bs → leN bs.length (leV bs) = bs
  | [], _ => rfl
  | x :: r, h => by
    have h1 := leN_leV r fun y hy => h y (List.mem_cons_of_mem _ hy)
    have h2 := h x List.mem_cons_self
    show leN (r.length + 1) (x.toNat + 256 * leV r) = _
    rw [leN_cons _ _ _ (by omega), h1, Int.toNat_of_nonneg h2.1]
theorem leN_take (hb : By xs) (h : n ≤ xs.length) : leN n (leV (xs.take n)) = xs.take n := by
  have := leN_leV (xs.take n) fun x hx => hb x (List.mem_of_mem_take hx)
  rwa [List.length_take, Nat.min_eq_left h] at this
theorem take_app (m n : Nat) : xs.take m ++ (xs.drop m).take n = xs.take (m + n) := by rw [List.take_add]
theorem sBy_of (hb : By xs) (h : xs.length = 46) : sBy (slOf xs) = xs := by
  have hd : ∀ m, By (xs.drop m) := fun m x hx => hb x (List.mem_of_mem_drop hx)
  have hdg : dgL (slOf xs).dg = (xs.drop 14).take 32 := by
    apply List.ext_getElem?
    intro i
    show ((List.range 32).map fun i => ((xs.drop 14).take 32).getD i 0)[i]? = _
    by_cases hi : i < 32
    · have hl : i < ((xs.drop 14).take 32).length := by rw [List.length_take, List.length_drop]; omega
      rw [List.getElem?_map, List.getElem?_range hi, List.getElem?_eq_getElem hl]
      show some (((xs.drop 14).take 32).getD i 0) = _
      rw [List.getD_eq_getElem?_getD, List.getElem?_eq_getElem hl]; rfl
    · rw [List.getElem?_eq_none (by simp; omega), List.getElem?_eq_none (by rw [List.length_take]; omega)]
  unfold sBy
  rw [hdg]
  show leN 1 (Int.toNat (leV (xs.take 1))) ++ leN 1 (Int.toNat (leV ((xs.drop 1).take 1))) ++ leN 8 (Int.toNat (leV ((xs.drop 2).take 8))) ++ leN 4 (Int.toNat (leV ((xs.drop 10).take 4))) ++ _ = _
  simp only [Int.toNat_natCast]
  rw [leN_take hb (by omega), leN_take (hd 1) (by rw [List.length_drop]; omega), leN_take (hd 2) (by rw [List.length_drop]; omega), leN_take (hd 10) (by rw [List.length_drop]; omega), take_app, take_app, take_app, take_app]
  exact List.take_of_length_le (by omega)
theorem tk_zero (h : tkE xs 0 n = 0) : n ≤ xs.length := by
  unfold tkE at h
  split at h
  · omega
  · rw [if_pos rfl] at h; cases h
theorem dec_by (hb : By xs) (he : (dec xs 0).2.2.1 = 0) (hc : CRight (dec xs 0).1) (hs : (dec xs 0).2.2.2 = 0 ∨ ∃ zs, xs = cBy (dec xs 0).1 ++ zs) : (dec xs 0).2.2.2 = 0 ∧ xs = cBy (dec xs 0).1 ++ (dec xs 0).2.1 := by
  have h1 : 1 ≤ xs.length := by
    by_cases h : 1 ≤ xs.length
    · exact h
    · exfalso
      obtain ⟨a1, a2, a3⟩ := tk_short (by omega : xs.length < 1)
      unfold dec at he
      have a4 : numB xs 0 1 = 0 := by unfold numB; rw [a1]; rfl
      rw [a4] at he
      simp only [show ¬ (0 : Nat) = 1 by decide, show ¬ (0 : Nat) = 2 by decide, show ¬ (0 : Nat) = 3 by decide, show ¬ (0 : Nat) = 4 by decide, if_false] at he
      rw [a3] at he; cases he
  obtain ⟨a1, a2, a3⟩ := tk_ok h1
  have hd : ∀ m, By (xs.drop m) := fun m x hx => hb x (List.mem_of_mem_drop hx)
  have hl1 : (xs.drop 1).length = xs.length - 1 := List.length_drop
  have hk1 : leN 1 (numB xs 0 1) = xs.take 1 := by unfold numB; rw [a1]; exact leN_take hb h1
  have h2 : xs.take 1 ++ xs.drop 1 = xs := List.take_append_drop 1 xs
  unfold dec at he hc hs ⊢
  rw [a2, a3] at he hc hs ⊢
  by_cases k1 : numB xs 0 1 = 1
  · rw [if_pos k1] at he hc hs ⊢
    have he : tkE (tkR (xs.drop 1) 0 1) (tkE (xs.drop 1) 0 1) 46 = 0 := he
    have hh2 : 1 ≤ (xs.drop 1).length := by
      by_cases h : 1 ≤ (xs.drop 1).length
      · exact h
      · exfalso
        obtain ⟨b1, b2, b3⟩ := tk_short (by omega : (xs.drop 1).length < 1)
        rw [b2, b3, (tk_bad (xs := []) (n := 46) (show (51 : Int) ≠ 0 by decide)).2.2] at he
        cases he
    obtain ⟨b1, b2, b3⟩ := tk_ok hh2
    rw [b2, b3, List.drop_drop] at he hc hs ⊢
    have h46 := tk_zero he
    obtain ⟨c1, c2, c3⟩ := tk_ok h46
    rw [rSlot_ok h46] at hc hs ⊢
    have hl2 : ((xs.drop (1 + 1)).take 46).length = 46 := by rw [List.length_take]; omega
    have hby : By ((xs.drop (1 + 1)).take 46) := fun x hx => hd 2 x (List.mem_of_mem_take hx)
    have hk2 : leN 1 (numB (xs.drop 1) 0 1) = (xs.drop 1).take 1 := by unfold numB; rw [b1]; exact leN_take (hd 1) hh2
    have hsp : xs = xs.take 1 ++ ((xs.drop 1).take 1 ++ ((xs.drop (1 + 1)).take 46 ++ (xs.drop (1 + 1)).drop 46)) := by
      rw [List.take_append_drop, show xs.drop (1 + 1) = (xs.drop 1).drop 1 by rw [List.drop_drop], List.take_append_drop, List.take_append_drop]
    by_cases hr : SRight (slOf ((xs.drop (1 + 1)).take 46))
    · rw [if_pos hr]
      refine ⟨rfl, ?_⟩
      show xs = (leN 1 1 ++ (leN 1 (Int.toNat (numB (xs.drop 1) 0 1)) ++ sBy' (slOf ((xs.drop (1 + 1)).take 46)))) ++ _
      rw [sBy'_right hr, sBy_of hby hl2, Int.toNat_natCast, hk2, c2]
      conv => rhs; rw [show leN 1 1 = xs.take 1 by rw [← hk1, k1]]
      simp only [List.append_assoc]
      exact hsp
    · exfalso
      rw [if_neg hr] at hs
      rcases hs with hs | ⟨zs, hs⟩
      · cases hs
      · have hz : SRight (slz 0) := slz_right (.inl rfl)
        have hs : xs = (leN 1 1 ++ (leN 1 (Int.toNat (numB (xs.drop 1) 0 1)) ++ sBy' (slz 0))) ++ zs := hs
        rw [sBy'_right hz] at hs
        have h46 : (xs.drop (1 + 1)).take 46 = sBy (slz 0) := by
          rw [hs]
          simp only [List.append_assoc]
          rw [show (1 + 1) = (leN 1 1 ++ leN 1 (Int.toNat (numB (xs.drop 1) 0 1))).length by simp [leN_len], ← List.append_assoc (leN 1 1), List.drop_left, List.take_left' sBy_len]
        apply hr
        rw [h46]
        decide +kernel
  rw [if_neg k1] at he hc hs ⊢
  by_cases k2 : numB xs 0 1 = 2
  · rw [if_pos k2] at he hc hs ⊢
    have hh2 := tk_zero he
    obtain ⟨b1, b2, b3⟩ := tk_ok hh2
    refine ⟨rfl, ?_⟩
    show xs = (leN 1 2 ++ leN 1 (Int.toNat (numB (xs.drop 1) 0 1))) ++ tkR (xs.drop 1) 0 1
    rw [Int.toNat_natCast, b2]
    unfold numB
    rw [b1, leN_take (hd 1) hh2, show leN 1 2 = xs.take 1 by rw [← hk1, k2], List.append_assoc, List.take_append_drop, List.take_append_drop]
  rw [if_neg k2] at he hc hs ⊢
  by_cases k3 : numB xs 0 1 = 3
  · rw [if_pos k3] at he hc hs ⊢
    have hh2 := tk_zero he
    obtain ⟨b1, b2, b3⟩ := tk_ok hh2
    refine ⟨rfl, ?_⟩
    show xs = (leN 1 3 ++ leN 1 (Int.toNat ((numB (xs.drop 1) 0 1 : Int) - 1 + 1))) ++ tkR (xs.drop 1) 0 1
    rw [show ((numB (xs.drop 1) 0 1 : Nat) : Int) - 1 + 1 = ((numB (xs.drop 1) 0 1 : Nat) : Int) by omega, Int.toNat_natCast, b2]
    unfold numB
    rw [b1, leN_take (hd 1) hh2, show leN 1 3 = xs.take 1 by rw [← hk1, k3], List.append_assoc, List.take_append_drop, List.take_append_drop]
  rw [if_neg k3] at he hc hs ⊢
  by_cases k4 : numB xs 0 1 = 4
  · rw [if_pos k4] at he hc hs ⊢
    have hh2 := tk_zero he
    obtain ⟨b1, b2, b3⟩ := tk_ok hh2
    refine ⟨rfl, ?_⟩
    show xs = (leN 1 4 ++ leN 8 (Int.toNat (numB (xs.drop 1) 0 8))) ++ tkR (xs.drop 1) 0 8
    rw [Int.toNat_natCast, b2]
    unfold numB
    rw [b1, leN_take (hd 1) hh2, show leN 1 4 = xs.take 1 by rw [← hk1, k4], List.append_assoc, List.take_append_drop, List.take_append_drop]
  rw [if_neg k4] at he hc hs ⊢
  exfalso
  unfold CRight at hc
  have hc : ((numB xs 0 1 : Nat) : Int) = 1 ∧ _ ∨ ((numB xs 0 1 : Nat) : Int) = 2 ∧ _ ∨ ((numB xs 0 1 : Nat) : Int) = 3 ∧ _ ∨ ((numB xs 0 1 : Nat) : Int) = 4 ∧ _ := hc
  omega
end J
set_option linter.unusedVariables false
set_option maxRecDepth 100000
namespace J
open Go Go.Ab
section
variable {xs ys zs bs : List Int} {e : Int} {c : Ch} {l : List Ch} {k n : Nat}
theorem dec_rest (hb : By xs) : By (dec xs e).2.1 := by
  unfold dec
  split
  · exact tkR_bytes (tkR_bytes (tkR_bytes hb _ _) _ _) _ _
  · split
    · exact tkR_bytes (tkR_bytes hb _ _) _ _
    · split
      · exact tkR_bytes (tkR_bytes hb _ _) _ _
      · split
        · exact tkR_bytes (tkR_bytes hb _ _) _ _
        · exact tkR_bytes hb _ _
theorem rGo_len : ∀ (k : Nat) (xs : List Int) (e : Int), (rGo k xs e).1.length = k
  | 0, _, _ => rfl
  | k + 1, xs, e => by show (_ :: _).length = _; rw [List.length_cons, rGo_len k]
theorem pGo_sound : ∀ (k : Nat) (xs : List Int) (r : List Ch × List Int × Int), By xs → pGo k xs 0 = some r → r.2.2 = 0 ∧ rGo k xs 0 = r ∧ xs = r.1.flatMap cBy ++ r.2.1 ∧ ∀ c ∈ r.1, CRight c
  | 0, xs, r, hb, h => by cases h; exact ⟨rfl, rfl, rfl, by simp⟩
  | k + 1, xs, r, hb, h => by
    have h : (if DOk (dec xs 0) then (pGo k (dec xs 0).2.1 (dec xs 0).2.2.1).map fun r => ((dec xs 0).1 :: r.1, r.2) else none) = some r := h
    by_cases hd : DOk (dec xs 0)
    · rw [if_pos hd] at h
      obtain ⟨hs, he, hc⟩ := hd
      rw [he] at h
      cases hp : pGo k (dec xs 0).2.1 0 with
      | none => rw [hp] at h; cases h
      | some r' =>
        rw [hp] at h
        cases h
        obtain ⟨i1, i2, i3, i4⟩ := pGo_sound k _ r' (dec_rest hb) hp
        refine ⟨i1, ?_, ?_, ?_⟩
        · show ((dec xs 0).1 :: (rGo k (dec xs 0).2.1 (dec xs 0).2.2.1).1, (rGo k (dec xs 0).2.1 (dec xs 0).2.2.1).2) = _
          rw [he, i2]
        · have := (dec_by hb he hc (.inl hs)).2
          show xs = cBy (dec xs 0).1 ++ r'.1.flatMap cBy ++ r'.2.1
          rw [List.append_assoc, ← i3]
          exact this
        · intro c hc'
          rcases List.mem_cons.1 hc' with rfl | hc'
          · exact hc
          · exact i4 c hc'
    · rw [if_neg hd] at h; cases h
end
section
variable {H : Heap} {Γ : List (Nat × Blk)} {K : Value → Heap → Prop} {v w x : Value} {xs ys bs : List Int} {j p : Nat} {e : Int}
def chz : Ch := ⟨0, 0, 0, slz 0, 0⟩
theorem b41 : (buildC P 41).f [] = some (agg (chC chz)) := by kernel_rfl
theorem b41k (k : Int) : (buildC P 41).f [(0, int k)] = some (agg (chC ⟨k, 0, 0, slz 0, 0⟩)) := by kernel_rfl
theorem Inh.trans {v v' v'' : Value} {xs ys zs : List Int} (h : Inh v xs v' ys) (h2 : Inh v' ys v'' zs) : Inh v xs v'' zs := fun Γ' hr => h2 Γ' (h Γ' hr)
def dCh (xs : List Int) (e : Int) : Ch × Int := if DOk (dec xs e) then ((dec xs e).1, 0) else (chz, 111)
set_option maxHeartbeats 8000000 in
theorem table_change_spec (hO : St H Γ) (hj : Γ[j]? = some (p, rdr v e)) (hv : RdB Γ v xs) (hx : xs.length ≤ 1000000) (hb : By xs)
    (hk : ∀ H' v2, St H' (Γ.set j (p, rdr v2 (dec xs e).2.2.1)) → Inh v xs v2 (dec xs e).2.1 → K (.tuple [agg (chC (dCh xs e).1), int (dCh xs e).2].toArray) H') : wCall P n_table_change [ptr p 0] H K := by
  apply table_change_ok; unfold table_change
  have hjl := (List.getElem?_eq_some_iff.1 hj).1
  rw [zc58]
  refine new_at hO ?_
  intro q H hO
  refine rFixed_spec (k := 1) (by omega) hO (at_l hj) hv.app hb ?_
  intro H v1 hO i1
  rw [List.set_append_left _ _ hjl] at hO
  have hl1 := tkB_lt hb e 1
  have hb1 := tkR_bytes hb 1 e
  have hx1 := tkR_len xs e 1
  refine opW_i (cvUi (by omega)) ?_
  refine opP_i (b41k _) ?_
  refine new_at hO ?_
  intro p4 H hO
  rw [List.append_assoc] at hO
  have hlen : ∀ y, (Γ.set j y).length = Γ.length := fun y => List.length_set
  have hj1 : ∀ v' e', (Γ.set j (p, rdr v' e'))[j]? = some (p, rdr v' e') := fun v' e' => set_at hj
  let C : Value → Int → Ch → List (Nat × Blk) := fun v' e' c => Γ.set j (p, rdr v' e') ++ [(q, ⟨chC chz, true⟩), (p4, ⟨chC c, true⟩)]
  have rv : ∀ {v'' ys}, Inh v xs v'' ys → ∀ v' e' c, RdB (C v' e' c) v'' ys := fun hi v' e' c => (hi _ (rd_set hv hj (RdB.shape hv))).app
  have fx : ∀ {H : Heap} {v' : Value} {ys : List Int} {e' : Int} {c : Ch} {k : Nat} {K' : Value → Heap → Prop}, k ≤ 8 → By ys → St H (C v' e' c) → Inh v xs v' ys → (∀ H' v'', St H' (C v'' (tkE ys e' k) c) → Inh v xs v'' (tkR ys e' k) → K' (uint .u64 (leV (tkB ys e' k))) H') → wCall P n_code_Reader_Fixed [ptr p 0, int k] H K' := by
    intro H v' ys e' c k K' h8 hby hOc hi hkk
    refine rFixed_spec h8 hOc (at_l (hj1 v' e')) (rv hi v' e' c) hby ?_
    intro H' v'' hO' hi'
    rw [List.set_append_left _ _ (by rw [hlen]; exact hjl), List.set_set] at hO'
    exact hkk H' v'' hO' (hi.trans hi')
  refine storeAll_at hO ((Γ.set j (p, rdr v1 (tkE xs e 1))).length + 1) (at_r rfl) rfl rfl rfl ?_
  intro H hO
  replace hO : St H (C v1 (tkE xs e 1) ⟨(numB xs e 1 : Nat), 0, 0, slz 0, 0⟩) := hO.set_r
  obtain ⟨d, hd⟩ : ∃ d, d = dec xs e := ⟨_, rfl⟩
  unfold dCh at hk
  rw [← hd] at hk
  have last : ∀ (H : Heap) (v2 : Value), d.2.2.2 = 0 → St H (C v2 d.2.2.1 d.1) → Inh v xs v2 d.2.1 → (wJoin (fun J_1 =>
      wCall P n_code_Reader_Err [ptr p 0] H fun t48 H68 =>
      opP ((binC P .neq 24 true).f t48 (.int .i64 0)) fun t49 =>
      wIf t49 (
      opP (pickA t49 (.bool true) undef) fun t54 =>
      J_1 [ptr q 0, ptr p4 0, t54] H68) (
      opW (loadAgg 40 (ptr p4 0) H68) fun t51 H72 =>
      wCall P n_table_right [t51] H72 fun t52 H74 =>
      opP (unA .not t52) fun t53 =>
      opP (pickA t49 (.bool true) t53) fun t54_1 =>
      J_1 [ptr q 0, ptr p4 0, t54_1] H74)) (fun l_1 H78 =>
      wIf (nth l_1 2) (
      opP ((buildC P 41).f []) fun t55 =>
      opW (storeTo 40 (nth l_1 0) t55 H78) fun u_8 H81 =>
      opW (loadAgg 40 (nth l_1 0) H81) fun r_1 _ =>
      K (.tuple [r_1, (.int .i64 111)].toArray) H81) (
      opW (loadAgg 40 (nth l_1 1) H78) fun t56 H84 =>
      opW (storeTo 40 (nth l_1 0) t56 H84) fun u_9 H86 =>
      opW (loadAgg 40 (nth l_1 0) H86) fun r_2 _ =>
      K (.tuple [r_2, (.int .i64 0)].toArray) H86))) := by
    intro H v2 hs hO hi
    refine join_with (fun l' H' => l' = [ptr q 0, ptr p4 0, .bool (decide (¬ DOk d))] ∧ St H' (C v2 d.2.2.1 d.1)) ?_ ?_
    · refine rErr_spec hO (at_l (hj1 _ _)) ?_
      refine opP_i bin_neq ?_
      refine wIf_dec (fun h => ?_) (fun h => ?_)
      · repeat (first | refine oi ?_ | refine ow ?_ | refine wy ?_ | refine wn ?_ | refine wt ?_ | refine wf' ?_ | refine cy ?_ | refine cn ?_)
        refine ⟨?_, hO⟩
        rw [decide_eq_true (show ¬ DOk d from fun h' => h h'.2.1)]
      · refine loadAll_at hO ((Γ.set j (p, rdr v2 d.2.2.1)).length + 1) (at_r rfl) rfl (by omega) ?_
        refine table_right_spec hO ?_
        intro H hO
        repeat (first | refine oi ?_ | refine ow ?_ | refine wy ?_ | refine wn ?_ | refine wt ?_ | refine wf' ?_ | refine cy ?_ | refine cn ?_)
        refine ⟨?_, hO⟩
        have : DOk d ↔ CRight d.1 := ⟨fun h' => h'.2.2, fun h' => ⟨hs, Decidable.not_not.1 h, h'⟩⟩
        by_cases hc : CRight d.1
        · rw [decide_eq_true hc, decide_eq_false (show ¬ ¬ DOk d from fun h' => h' (this.2 hc))]; rfl
        · rw [decide_eq_false hc, decide_eq_true (show ¬ DOk d from fun h' => hc (this.1 h'))]; rfl
    clear hO
    rintro l' H ⟨rfl, hO⟩
    try simp only [nth_zero, nth_succ]
    refine wIf_dec (fun h => ?_) (fun h => ?_)
    · rw [if_neg h] at hk
      refine opP_i b41 ?_
      refine storeAll_at hO ((Γ.set j (p, rdr v2 d.2.2.1)).length + 0) (at_r rfl) rfl rfl rfl ?_
      intro H hO
      replace hO := hO.set_r
      refine loadAll_at hO ((Γ.set j (p, rdr v2 d.2.2.1)).length + 0) (at_r rfl) rfl (by omega) ?_
      exact hk _ v2 hO.left hi
    · have h := Decidable.not_not.1 h
      rw [if_pos h] at hk
      refine loadAll_at hO ((Γ.set j (p, rdr v2 d.2.2.1)).length + 1) (at_r rfl) rfl (by omega) ?_
      refine storeAll_at hO ((Γ.set j (p, rdr v2 d.2.2.1)).length + 0) (at_r rfl) rfl rfl rfl ?_
      intro H hO
      replace hO := hO.set_r
      refine loadAll_at hO ((Γ.set j (p, rdr v2 d.2.2.1)).length + 0) (at_r rfl) rfl (by omega) ?_
      exact hk _ v2 hO.left hi
  unfold dec at hd
  refine join_inline ?_
  refine opP_i offPtr_ptr ?_
  refine load_at hO ((Γ.set j (p, rdr v1 (tkE xs e 1))).length + 1) (at_r rfl) (show _ = some (int ((numB xs e 1 : Nat) : Int)) from rfl) ?_
  have kk : ∀ n : Nat, ((numB xs e 1 : Nat) : Int) = (n : Int) ↔ numB xs e 1 = n := fun n => by omega
  by_cases k1 : numB xs e 1 = 1
  · rw [if_pos k1] at hd
    repeat (first | refine oi ?_ | refine ow ?_ | refine wy ?_ | refine wn ?_ | refine wt ?_ | refine wf' ?_ | refine cy ?_ | refine cn ?_)
    refine fx (k := 1) (by omega) hb1 hO i1 ?_
    intro H v2 hO i2
    have hl2 := tkB_lt hb1 (tkE xs e 1) 1
    have hb2 := tkR_bytes hb1 1 (tkE xs e 1)
    have hx2 := tkR_len (tkR xs e 1) (tkE xs e 1) 1
    refine opW_i (cvUi (by omega)) ?_
    refine opP_i offPtr_ptr ?_
    refine store1_at hO ((Γ.set j (p, rdr v2 (tkE (tkR xs e 1) (tkE xs e 1) 1))).length + 1) (at_r rfl) rfl (show 0 + 1 < 40 by omega) (show _ = chC ⟨1, numB (tkR xs e 1) (tkE xs e 1) 1, 0, slz 0, 0⟩ by rw [k1]; rfl) ?_
    intro H hO
    replace hO : St H (C v2 (tkE (tkR xs e 1) (tkE xs e 1) 1) ⟨1, numB (tkR xs e 1) (tkE xs e 1) 1, 0, slz 0, 0⟩) := hO.set_r
    refine slot_Read_spec hO (at_l (hj1 _ _)) (rv i2 _ _ _) (by omega) hb2 ?_
    intro H v3 hO i3
    unfold rdN at hO
    rw [List.set_append_left _ _ (by rw [hlen]; exact hjl), List.set_set] at hO
    have i3 := i2.trans i3
    refine opP_i ext0 ?_
    refine opP_i ext1 ?_
    rw [zc26]
    refine new_at hO ?_
    intro p5 H hO
    rw [List.append_assoc] at hO
    generalize rSlot (tkR (tkR xs e 1) (tkE xs e 1) 1) (tkE (tkR xs e 1) (tkE xs e 1) 1) = rs at *
    refine storeAll_at hO ((Γ.set j (p, rdr v3 (tkE (tkR (tkR xs e 1) (tkE xs e 1) 1) (tkE (tkR xs e 1) (tkE xs e 1) 1) 46))).length + 2) (at_r rfl) rfl rfl rfl ?_
    intro H hO
    replace hO := hO.set_r
    refine opP_i bin_neq ?_
    refine wIf_dec (fun h => ?_) (fun h => ?_)
    · refine opP_i b41 ?_
      refine storeAll_at hO ((Γ.set j (p, rdr v3 (tkE (tkR (tkR xs e 1) (tkE xs e 1) 1) (tkE (tkR xs e 1) (tkE xs e 1) 1) 46))).length + 0) (at_r rfl) rfl rfl rfl ?_
      intro H hO
      replace hO := hO.set_r
      refine loadAll_at hO ((Γ.set j (p, rdr v3 (tkE (tkR (tkR xs e 1) (tkE xs e 1) 1) (tkE (tkR xs e 1) (tkE xs e 1) 1) 46))).length + 0) (at_r rfl) rfl (by omega) ?_
      rw [if_neg (show ¬ DOk d from fun h' => h (by have := h'.1; rw [hd] at this; exact this))] at hk
      subst hd
      exact hk _ v3 hO.left i3
    · refine loadAll_at hO ((Γ.set j (p, rdr v3 (tkE (tkR (tkR xs e 1) (tkE xs e 1) 1) (tkE (tkR xs e 1) (tkE xs e 1) 1) 46))).length + 2) (at_r rfl) rfl (by omega) ?_
      refine opP_i offPtr_ptr ?_
      refine store_at hO ((Γ.set j (p, rdr v3 (tkE (tkR (tkR xs e 1) (tkE xs e 1) 1) (tkE (tkR xs e 1) (tkE xs e 1) 1) 46))).length + 1) (at_r rfl) rfl (show 0 + 3 + 36 ≤ 40 by omega) rfl ?_
      intro H hO
      replace hO := hO.set_r.keep 2
      try simp only [nth_zero, nth_succ]
      refine last _ v3 (by rw [hd]; exact Decidable.not_not.1 h) ?_ (by rw [hd]; exact i3)
      rw [hd]; exact hO
  rw [if_neg k1] at hd
  repeat (first | refine oi ?_ | refine ow ?_ | refine wy ?_ | refine wn ?_ | refine wt ?_ | refine wf' ?_ | refine cy ?_ | refine cn ?_)
  by_cases k2 : numB xs e 1 = 2
  · rw [if_pos k2] at hd
    repeat (first | refine oi ?_ | refine ow ?_ | refine wy ?_ | refine wn ?_ | refine wt ?_ | refine wf' ?_ | refine cy ?_ | refine cn ?_)
    refine fx (k := 1) (by omega) hb1 hO i1 ?_
    intro H v2 hO i2
    have hl2 := tkB_lt hb1 (tkE xs e 1) 1
    refine opW_i (cvUi (by omega)) ?_
    refine opP_i offPtr_ptr ?_
    refine store1_at hO ((Γ.set j (p, rdr v2 (tkE (tkR xs e 1) (tkE xs e 1) 1))).length + 1) (at_r rfl) rfl (show 0 + 2 < 40 by omega) (show _ = chC ⟨2, 0, numB (tkR xs e 1) (tkE xs e 1) 1, slz 0, 0⟩ by rw [k2]; rfl) ?_
    intro H hO
    replace hO := hO.set_r
    try simp only [nth_zero, nth_succ]
    refine last _ v2 (by rw [hd]) ?_ (by rw [hd]; exact i2)
    rw [hd]; exact hO
  rw [if_neg k2] at hd
  repeat (first | refine oi ?_ | refine ow ?_ | refine wy ?_ | refine wn ?_ | refine wt ?_ | refine wf' ?_ | refine cy ?_ | refine cn ?_)
  by_cases k3 : numB xs e 1 = 3
  · rw [if_pos k3] at hd
    repeat (first | refine oi ?_ | refine ow ?_ | refine wy ?_ | refine wn ?_ | refine wt ?_ | refine wf' ?_ | refine cy ?_ | refine cn ?_)
    refine fx (k := 1) (by omega) hb1 hO i1 ?_
    intro H v2 hO i2
    have hl2 := tkB_lt hb1 (tkE xs e 1) 1
    refine opW_i (cvUi (by omega)) ?_
    repeat (first | refine oi ?_ | refine ow ?_ | refine wy ?_ | refine wn ?_ | refine wt ?_ | refine wf' ?_ | refine cy ?_ | refine cn ?_)
    refine store1_at hO ((Γ.set j (p, rdr v2 (tkE (tkR xs e 1) (tkE xs e 1) 1))).length + 1) (at_r rfl) rfl (show 0 + 2 < 40 by omega) (show _ = chC ⟨3, 0, (numB (tkR xs e 1) (tkE xs e 1) 1 : Int) - 1, slz 0, 0⟩ by rw [k3]; rfl) ?_
    intro H hO
    replace hO := hO.set_r
    try simp only [nth_zero, nth_succ]
    refine last _ v2 (by rw [hd]) ?_ (by rw [hd]; exact i2)
    rw [hd]; exact hO
  rw [if_neg k3] at hd
  repeat (first | refine oi ?_ | refine ow ?_ | refine wy ?_ | refine wn ?_ | refine wt ?_ | refine wf' ?_ | refine cy ?_ | refine cn ?_)
  by_cases k4 : numB xs e 1 = 4
  · rw [if_pos k4] at hd
    repeat (first | refine oi ?_ | refine ow ?_ | refine wy ?_ | refine wn ?_ | refine wt ?_ | refine wf' ?_ | refine cy ?_ | refine cn ?_)
    refine fx (k := 8) (by omega) hb1 hO i1 ?_
    intro H v2 hO i2
    refine opP_i offPtr_ptr ?_
    refine store1_at hO ((Γ.set j (p, rdr v2 (tkE (tkR xs e 1) (tkE xs e 1) 8))).length + 1) (at_r rfl) rfl (show 0 + 39 < 40 by omega) (show _ = chC ⟨4, 0, 0, slz 0, numB (tkR xs e 1) (tkE xs e 1) 8⟩ by rw [k4]; rfl) ?_
    intro H hO
    replace hO := hO.set_r
    try simp only [nth_zero, nth_succ]
    refine last _ v2 (by rw [hd]) ?_ (by rw [hd]; exact i2)
    rw [hd]; exact hO
  rw [if_neg k4] at hd
  repeat (first | refine oi ?_ | refine ow ?_ | refine wy ?_ | refine wn ?_ | refine wt ?_ | refine wf' ?_ | refine cy ?_ | refine cn ?_)
  try simp only [nth_zero, nth_succ]
  refine last _ v1 (by rw [hd]) ?_ (by rw [hd]; exact i1)
  rw [hd]; exact hO
end
end J
set_option linter.unusedVariables false
set_option maxRecDepth 100000
namespace J
open Go Go.Ab
variable {H : Heap} {Γ : List (Nat × Blk)} {K : Value → Heap → Prop} {v w x : Value} {xs ys bs : List Int} {j p : Nat} {e : Int}
set_option maxHeartbeats 4000000 in
theorem table_Get_spec (hO : St H Γ) (hv : RdB Γ v bs) (hx : bs.length ≤ 1000000) (hb : By bs) (hk : Made Γ K (tGet bs)) : wCall P n_table_Get [v] H K := by
  apply table_Get_ok; unfold table_Get
  refine New_spec hO hv ?_
  clear hO
  intro H pr hO
  have bad : ∀ {H : Heap} {L : List (Nat × Blk)}, tGet bs = ([], 111) → St H (Γ ++ L) → K (.tuple [nilSl, int 111].toArray) H := fun {H L} h hO => by
    rw [h] at hk
    exact Made.none hk hO.left
  refine rFixed_spec (k := 1) (by omega) hO (at_r (k := 0) rfl) hv.app hb ?_
  intro H v1 hO i1
  rw [Go.Ab.set_r] at hO
  replace hO : St H (Γ ++ [(pr, rdr v1 (tkE bs 0 1))]) := hO
  have hl1 := tkB_lt hb 0 1
  refine opW_i (cvUi (by omega)) ?_
  obtain ⟨m, hm⟩ : ∃ m, m = numB bs 0 1 := ⟨_, rfl⟩
  rw [show leV (tkB bs 0 1) = m from hm.symm] at hl1 ⊢
  unfold tGet at bad hk
  rw [← hm] at bad hk
  repeat (first | refine oi ?_ | refine ow ?_ | refine wy ?_ | refine wn ?_ | refine wt ?_ | refine wf' ?_ | refine cy ?_ | refine cn ?_)
  refine wIf_dec (fun h => ?_) (fun h => ?_)
  · exact bad (if_neg (by omega)) hO
  rw [if_pos (by omega)] at bad hk
  refine table_Get_L0_ind (fun k l' H' => ∃ (y : Nat) (vv v' : Value) (zs : List Int) (ee : Int) (la : List Ch), y ≤ m ∧ k = m - y ∧ l' = [nilSl, int 0, ptr pr 0, v', int m, int y] ∧ St H' ((Γ ++ [(pr, rdr vv ee)]) ++ outB v' (chs la)) ∧ Own 40 v' la.length (chs la) ∧ la.length = y ∧ Inh v bs vv zs ∧ By zs ∧ zs.length ≤ 1000000 ∧ pGo m (tkR bs 0 1) (tkE bs 0 1) = (pGo (m - y) zs ee).map fun r => (la ++ r.1, r.2)) _ _ ?_ m _ _ ⟨0, v1, nilSl, tkR bs 0 1, tkE bs 0 1, [], by omega, by omega, rfl, ?_, Own.nil, rfl, i1, tkR_bytes hb 1 0, ?_, ?_⟩
  rotate_left
  · show St H ((Γ ++ [(pr, rdr v1 (tkE bs 0 1))]) ++ []); rw [List.append_nil]; exact hO
  · have := tkR_len bs 0 1; omega
  · show _ = (pGo m (tkR bs 0 1) (tkE bs 0 1)).map fun r => ([] ++ r.1, r.2)
    cases pGo m (tkR bs 0 1) (tkE bs 0 1) <;> rfl
  clear hO
  rintro k l' H' ⟨y, vv, v', zs, ee, la, hy, rfl, rfl, hO, ho, hla, hi, hzb, hzl, hpg⟩
  unfold table_Get_L0
  try simp only [nth_zero, nth_succ]
  repeat (first | refine oi ?_ | refine ow ?_ | refine wy ?_ | refine wn ?_ | refine wt ?_ | refine wf' ?_ | refine cy ?_ | refine cn ?_)
  refine wIf_dec (fun h2 => ?_) (fun h2 => ?_)
  · have hym : y < m := by omega
    have hst : pGo (m - y) zs ee = if DOk (dec zs ee) then (pGo (m - (y + 1)) (dec zs ee).2.1 (dec zs ee).2.2.1).map fun r => ((dec zs ee).1 :: r.1, r.2) else none := by
      rw [show m - y = (m - (y + 1)) + 1 by omega]; rfl
    refine table_change_spec hO (at_l (at_r (k := 0) rfl)) (hi _ hv).app.app hzl hzb ?_
    intro H v2 hO i2
    rw [List.set_append_left _ _ (by simp), Go.Ab.set_r] at hO
    replace hO : St H ((Γ ++ [(pr, rdr v2 (dec zs ee).2.2.1)]) ++ outB v' (chs la)) := hO
    refine opP_i ext0 ?_
    refine opP_i ext1 ?_
    rw [zc58]
    refine new_at hO ?_
    intro p7 H hO
    refine storeAll_at hO (((Γ ++ [(pr, rdr v2 (dec zs ee).2.2.1)]) ++ outB v' (chs la)).length + 0) (at_r rfl) rfl rfl rfl ?_
    intro H hO
    replace hO : St H (((Γ ++ [(pr, rdr v2 (dec zs ee).2.2.1)]) ++ outB v' (chs la)) ++ [(p7, ⟨chC (dCh zs ee).1, true⟩)]) := hO.set_r
    unfold dCh at hO ⊢
    by_cases hd : DOk (dec zs ee)
    · rw [if_pos hd] at hO hst ⊢
      repeat (first | refine oi ?_ | refine ow ?_ | refine wy ?_ | refine wn ?_ | refine wt ?_ | refine wf' ?_ | refine cy ?_ | refine cn ?_)
      refine loadAll_at hO (((Γ ++ [(pr, rdr v2 (dec zs ee).2.2.1)]) ++ outB v' (chs la)).length + 0) (at_r rfl) rfl (by omega) ?_
      refine newSl_at hO (bs1 _ _) ?_
      intro q H hO
      refine append_ch (Γ := Γ ++ [(pr, rdr v2 (dec zs ee).2.2.1)]) (St.mid hO) ho (by omega) ?_
      intro H v'' hO ho'
      repeat (first | refine oi ?_ | refine ow ?_ | refine wy ?_ | refine wn ?_ | refine wt ?_ | refine wf' ?_ | refine cy ?_ | refine cn ?_)
      refine ⟨_, by omega, y + 1, v2, v'', (dec zs ee).2.1, (dec zs ee).2.2.1, la ++ [(dec zs ee).1], by omega, rfl, rfl, hO, ho', by simp [hla], hi.trans i2, dec_rest hzb, ?_, ?_⟩
      · have : (dec zs ee).2.1.length ≤ zs.length := by
          unfold dec
          have a1 := tkR_len zs ee 1
          split
          · exact Nat.le_trans (tkR_len _ _ _) (Nat.le_trans (tkR_len _ _ _) a1)
          · split
            · exact Nat.le_trans (tkR_len _ _ _) a1
            · split
              · exact Nat.le_trans (tkR_len _ _ _) a1
              · split
                · exact Nat.le_trans (tkR_len _ _ _) a1
                · exact a1
        omega
      · rw [hpg, hst, Option.map_map]
        congr 1
        funext r
        simp
    · rw [if_neg hd] at hO hst ⊢
      repeat (first | refine oi ?_ | refine ow ?_ | refine wy ?_ | refine wn ?_ | refine wt ?_ | refine wf' ?_ | refine cy ?_ | refine cn ?_)
      try simp only [nth_zero, nth_succ]
      rw [hst] at hpg
      rw [hpg] at bad
      exact bad rfl hO.left.left
  · have e : y = m := by omega
    subst e
    rw [show y - y = 0 by omega] at hpg
    have hpg : pGo y (tkR bs 0 1) (tkE bs 0 1) = some (la ++ [], zs, ee) := hpg
    rw [List.append_nil] at hpg
    rw [hpg] at bad hk
    repeat (first | refine oi ?_ | refine ow ?_ | refine wy ?_ | refine wn ?_ | refine wt ?_ | refine wf' ?_ | refine cy ?_ | refine cn ?_)
    try simp only [nth_zero, nth_succ]
    refine rEnd_spec hO (at_l (at_r (k := 0) rfl)) (hi _ hv).app.app ?_
    refine opP_i bin_neq ?_
    refine wIf_dec (fun h3 => ?_) (fun h3 => ?_)
    · exact bad (if_neg h3) hO.left
    · have hk : Made Γ K (la, 0) := by
        have := hk
        simp only at this
        rw [if_pos (Decidable.not_not.1 h3)] at this
        exact this
      exact hk _ v' (St.mid hO) ho
end J
set_option linter.unusedVariables false
set_option maxRecDepth 100000
namespace J
open Go Go.Ab
section
variable {xs ys bs : List Int} {e : Int} {c : Ch} {l : List Ch} {k n : Nat}
theorem slOf_dg (hb : By xs) (i : Nat) : 0 ≤ (slOf xs).dg i ∧ (slOf xs).dg i ≤ 255 := by
  show 0 ≤ ((xs.drop 14).take 32).getD i 0 ∧ ((xs.drop 14).take 32).getD i 0 ≤ 255
  rw [List.getD_eq_getElem?_getD]
  cases h : ((xs.drop 14).take 32)[i]? with
  | none => exact ⟨by show (0 : Int) ≤ 0; omega, by show (0 : Int) ≤ 255; omega⟩
  | some y => exact hb y (List.mem_of_mem_drop (List.mem_of_mem_take (List.mem_of_getElem? h)))
def CBy (c : Ch) : Prop := (∀ i, 0 ≤ c.to.dg i ∧ c.to.dg i ≤ 255) ∧ 0 ≤ c.ver
theorem rSlot_dg (hb : By xs) (i : Nat) : 0 ≤ (rSlot xs e).1.dg i ∧ (rSlot xs e).1.dg i ≤ 255 := by
  have z : 0 ≤ (slz 0).dg i ∧ (slz 0).dg i ≤ 255 := ⟨by show (0 : Int) ≤ 0; omega, by show (0 : Int) ≤ 255; omega⟩
  unfold rSlot
  split
  · exact z
  · split
    · exact slOf_dg (RdB.bytes hb 46 e) i
    · exact z
theorem dec_cby (hb : By xs) : CBy (dec xs e).1 := by
  have z : ∀ i, 0 ≤ (slz 0).dg i ∧ (slz 0).dg i ≤ 255 := fun i => ⟨by show (0 : Int) ≤ 0; omega, by show (0 : Int) ≤ 255; omega⟩
  unfold dec
  split
  · exact ⟨rSlot_dg (tkR_bytes (tkR_bytes hb _ _) _ _), Int.le_refl _⟩
  · split
    · exact ⟨z, Int.le_refl _⟩
    · split
      · exact ⟨z, Int.le_refl _⟩
      · split
        · exact ⟨z, Int.natCast_nonneg _⟩
        · exact ⟨z, Int.le_refl _⟩
theorem rGo_cby : ∀ (k : Nat) (xs : List Int) (e : Int), By xs → ∀ c ∈ (rGo k xs e).1, CBy c
  | 0, _, _, _ => fun c hc => (by cases hc)
  | k + 1, xs, e, hb => fun c hc => by
    rcases List.mem_cons.1 hc with rfl | hc
    · exact dec_cby hb
    · exact rGo_cby k _ _ (dec_rest hb) c hc
theorem By.app {xs ys : List Int} (h : By xs) (h2 : By ys) : By (xs ++ ys) := fun x hx => by
  rcases List.mem_append.1 hx with hx | hx
  · exact h x hx
  · exact h2 x hx
theorem By_leN (y n : Nat) : By (leN y n) := by
  intro x hx
  obtain ⟨i, _, rfl⟩ := List.mem_map.1 hx
  have : n / 256 ^ i % 256 < 256 := Nat.mod_lt _ (by omega)
  omega
theorem By_sBy' {s : Sl} (h : ∀ i, 0 ≤ s.dg i ∧ s.dg i ≤ 255) : By (sBy' s) := by
  unfold sBy'
  split
  · unfold sBy
    refine (((((By_leN _ _).app (By_leN _ _)).app (By_leN _ _)).app (By_leN _ _)).app ?_)
    intro x hx
    obtain ⟨i, _, rfl⟩ := List.mem_map.1 hx
    exact h i
  · exact fun x hx => (by cases hx)
theorem By_cBy {c : Ch} (h : CBy c) : By (cBy c) := by
  unfold cBy
  refine (By_leN _ _).app ?_
  split
  · exact (By_leN _ _).app (By_sBy' h.1)
  · split
    · exact By_leN _ _
    · split
      · exact By_leN _ _
      · exact By_leN _ _
theorem By_lBy (h : ∀ c ∈ l, CBy c) : By (lBy l) := by
  unfold lBy
  split
  · refine (By_leN _ _).app ?_
    intro x hx
    obtain ⟨c, hc, hx⟩ := List.mem_flatMap.1 hx
    exact By_cBy (h c hc) x hx
  · exact fun x hx => (by cases hx)
end
section
variable {H : Heap} {Γ : List (Nat × Blk)} {K : Value → Heap → Prop} {v w x : Value} {xs ys bs : List Int} {j p : Nat} {e : Int}
end
end J
set_option linter.unusedVariables false
set_option maxRecDepth 100000
namespace J
open Go Go.Ab
variable {xs ys zs bs : List Int} {e : Int} {c : Ch} {l : List Ch} {k n : Nat} {s s' : Sl} {t : Tb}
theorem leV_nat {x : Int} {y : Nat} (h0 : 0 ≤ x) (h : x.toNat < 256 ^ y) : ((leV (leN y x.toNat) : Nat) : Int) = x := by rw [leV_leN _ _ h]; omega
theorem tk_app {av : List Int} (h : av.length = n) : tkB (av ++ bs) 0 n = av ∧ tkR (av ++ bs) 0 n = bs ∧ tkE (av ++ bs) 0 n = 0 := by
  obtain ⟨a, b, c⟩ := tk_ok (xs := av ++ bs) (n := n) (by simp; omega)
  rw [a, b, c, List.take_left' h, List.drop_left' h]
  exact ⟨rfl, rfl, rfl⟩
theorem slOf_app {a1 a2 a3 a4 a5 : List Int} (h1 : a1.length = 1) (h2 : a2.length = 1) (h3 : a3.length = 8) (h4 : a4.length = 4) (h5 : a5.length = 32) : slOf (a1 ++ a2 ++ a3 ++ a4 ++ a5) = ⟨leV a1, leV a2, leV a3, leV a4, fun i => a5.getD i 0⟩ := by
  unfold slOf
  have e1 : (a1 ++ a2 ++ a3 ++ a4 ++ a5) = a1 ++ (a2 ++ (a3 ++ (a4 ++ (a5 ++ [])))) := by simp
  rw [e1]
  have d1 : ∀ r, (a1 ++ r).drop 1 = r := fun r => List.drop_left' h1
  have d2 : ∀ r, (a1 ++ (a2 ++ r)).drop 2 = r := fun r => by rw [show 2 = 1 + 1 from rfl, ← List.drop_drop, d1, List.drop_left' h2]
  have d3 : ∀ r, (a1 ++ (a2 ++ (a3 ++ r))).drop 10 = r := fun r => by rw [show 10 = 2 + 8 from rfl, ← List.drop_drop, d2, List.drop_left' h3]
  have d4 : ∀ r, (a1 ++ (a2 ++ (a3 ++ (a4 ++ r)))).drop 14 = r := fun r => by rw [show 14 = 10 + 4 from rfl, ← List.drop_drop, d3, List.drop_left' h4]
  rw [d1, d2, d3, d4, List.take_left' h1, List.take_left' h2, List.take_left' h3, List.take_left' h4, List.take_left' h5]
theorem slOf_sBy (hr : SRight s) : slC (slOf (sBy s)) = slC s := by
  obtain ⟨n1, n2, n3, n4⟩ := hr.nn
  unfold sBy
  rw [slOf_app (leN_len _ _) (leN_len _ _) (leN_len _ _) (leN_len _ _) (by simp [dgL])]
  show int _ :: int _ :: .int .u64 _ :: int _ :: dgC _ = int s.st :: int s.tr :: .int .u64 s.ver :: int s.sz :: dgC s.dg
  rw [leV_nat n1.1 (by omega), leV_nat n2.1 (by omega), leV_nat n3.1 (by omega), leV_nat n4.1 (by omega)]
  congr 4
theorem slC_inj (h : slC s = slC s') : s.st = s'.st ∧ s.tr = s'.tr ∧ s.ver = s'.ver ∧ s.sz = s'.sz ∧ dgC s.dg = dgC s'.dg := by
  have h : int s.st :: int s.tr :: .int .u64 s.ver :: int s.sz :: dgC s.dg = int s'.st :: int s'.tr :: .int .u64 s'.ver :: int s'.sz :: dgC s'.dg := h
  simp only [List.cons.injEq, Value.int.injEq, true_and] at h
  exact h
theorem SRight_congr (h : slC s = slC s') : SRight s ↔ SRight s' := by
  obtain ⟨h1, h2, h3, h4, h5⟩ := slC_inj h
  unfold SRight SNone SImg Dz
  rw [h1, h2, h3, h4, h5]
theorem SZ_congr (h : slC s = slC s') : SZ s ↔ SZ s' := by
  unfold SZ SEq
  rw [h]
theorem CRight_congr {c c' : Ch} (h1 : c.kind = c'.kind) (h2 : c.slot = c'.slot) (h3 : c.n = c'.n) (h4 : c.ver = c'.ver) (h : slC c.to = slC c'.to) : CRight c ↔ CRight c' := by
  unfold CRight
  rw [h1, h2, h3, h4, SRight_congr h, SZ_congr h]
theorem str_ext {x y : ByteArray} (h : x.data.toList = y.data.toList) : x = y := by
  obtain ⟨x⟩ := x
  obtain ⟨y⟩ := y
  have h : x.toList = y.toList := h
  rw [Array.ext' h]
theorem dec_cBy (hc : CRight c) (hv : 0 ≤ c.ver) : chC (dec (cBy c ++ zs) 0).1 = chC c ∧ (dec (cBy c ++ zs) 0).2.1 = zs ∧ DOk (dec (cBy c ++ zs) 0) := by
  have fin : ∀ d : Ch × List Int × Int × Int, d.1.kind = c.kind → d.1.slot = c.slot → d.1.n = c.n → d.1.ver = c.ver → slC d.1.to = slC c.to → d.2 = (zs, 0, 0) → chC d.1 = chC c ∧ d.2.1 = zs ∧ DOk d := by
    intro d h1 h2 h3 h4 h5 h6
    refine ⟨?_, by rw [h6], ?_⟩
    · show int _ :: int _ :: int _ :: (slC _ ++ [.int .u64 _]) = int c.kind :: int c.slot :: int c.n :: (slC c.to ++ [.int .u64 c.ver])
      rw [h1, h2, h3, h4, h5]
    · refine ⟨by rw [h6], by rw [h6], (CRight_congr h1 h2 h3 h4 h5).2 hc⟩
  have hk : 1 ≤ c.kind ∧ c.kind ≤ 4 := by rcases hc with h | h | h | h <;> omega
  have kk : ∀ r, tkB (leN 1 c.kind.toNat ++ r) 0 1 = leN 1 c.kind.toNat ∧ tkR (leN 1 c.kind.toNat ++ r) 0 1 = r ∧ tkE (leN 1 c.kind.toNat ++ r) 0 1 = 0 := fun r => tk_app (leN_len _ _)
  have kn : ∀ r, numB (leN 1 c.kind.toNat ++ r) 0 1 = c.kind.toNat := fun r => by unfold numB; rw [(kk r).1, leV_leN _ _ (by omega)]
  have szz : SZ c.to → slC (slz 0) = slC c.to := fun h => by
    have h : eqCells (slC (slz 0)) (slC c.to) = true := h
    have hcells : ∀ (av bs' : List Value) (ks : List CK), Fit ks av → Fit ks bs' → eqCells av bs' = true → av = bs' := by
      intro av
      induction av with
      | nil => intro bs' ks h1 h2 h3; cases bs' with
        | nil => rfl
        | cons _ _ => cases h3
      | cons a av ih => intro bs' ks h1 h2 h3; cases bs' with
        | nil => cases h3
        | cons b bs' =>
          cases ks with
          | nil => exact absurd h1 id
          | cons kd ks =>
            have h3 : (cellEq a b && eqCells av bs') = true := h3
            rw [Bool.and_eq_true] at h3
            rw [ih bs' ks h1.2 h2.2 h3.2]
            congr 1
            have f1 := h1.1
            have f2 := h2.1
            have ce := h3.1
            cases kd <;> cases a <;> cases b <;> first | (exact absurd f1 id) | (exact absurd f2 id) | (cases ce; done) | skip
            · have ce : (_ == _) = true := ce
              rw [beq_iff_eq.1 ce]
            · have ce : decide (_ = _) = true := ce
              have f1 : _ = _ := f1
              have f2 : _ = _ := f2
              rw [of_decide_eq_true ce, ← f1, ← f2]
            · exact congrArg Value.string (str_ext (beq_iff_eq.1 ce))
    exact hcells _ _ kS (fitS _) (fitS _) h
  unfold cBy
  rw [List.append_assoc]
  unfold dec
  rw [kn, (kk _).2.1, (kk _).2.2]
  by_cases k1 : c.kind = 1
  · obtain ⟨hi, hs, hn, hv0⟩ : Ix c.slot ∧ SRight c.to ∧ c.n = 0 ∧ c.ver = 0 := by rcases hc with h | h | h | h; exact ⟨h.2.1.1, h.2.1.2, h.2.2.1, h.2.2.2⟩; all_goals omega
    have hib := hi.bd
    rw [if_pos (show c.kind.toNat = 1 by omega), if_pos k1, List.append_assoc, sBy'_right hs]
    obtain ⟨a1, a2, a3⟩ := tk_app (av := leN 1 c.slot.toNat) (bs := sBy c.to ++ zs) (n := 1) (leN_len _ _)
    obtain ⟨b1, b2, b3⟩ := tk_app (av := sBy c.to) (bs := zs) (n := 46) sBy_len
    unfold numB
    rw [a1, a2, a3, b2, b3]
    have hl : 46 ≤ (sBy c.to ++ zs).length := by simp [sBy_len]
    have hsl : (sBy c.to ++ zs).take 46 = sBy c.to := List.take_left' sBy_len
    have hrr : SRight (slOf (sBy c.to)) := (SRight_congr (slOf_sBy hs)).2 hs
    rw [rSlot_ok hl, hsl, if_pos hrr]
    refine fin _ k1.symm ?_ hn.symm hv0.symm (slOf_sBy hs) rfl
    show ((leV (leN 1 c.slot.toNat) : Nat) : Int) = c.slot
    exact leV_nat hib.1 (by omega)
  rw [if_neg (show ¬ c.kind.toNat = 1 by omega), if_neg k1]
  by_cases k2 : c.kind = 2
  · obtain ⟨hi, hs, hz, hv0⟩ : Ix c.n ∧ c.slot = 0 ∧ SZ c.to ∧ c.ver = 0 := by rcases hc with h | h | h | h; omega; exact h.2; all_goals omega
    have hib := hi.bd
    rw [if_pos (show c.kind.toNat = 2 by omega), if_pos k2]
    obtain ⟨a1, a2, a3⟩ := tk_app (av := leN 1 c.n.toNat) (bs := zs) (n := 1) (leN_len _ _)
    unfold numB
    rw [a1, a2, a3]
    refine fin _ k2.symm hs.symm ?_ hv0.symm (szz hz) rfl
    exact leV_nat hib.1 (by omega)
  rw [if_neg (show ¬ c.kind.toNat = 2 by omega), if_neg k2]
  by_cases k3 : c.kind = 3
  · obtain ⟨hi, hs, hz, hv0⟩ : (c.n = -1 ∨ Ix c.n) ∧ c.slot = 0 ∧ SZ c.to ∧ c.ver = 0 := by rcases hc with h | h | h | h; omega; omega; exact h.2; omega
    have hib : -1 ≤ c.n ∧ c.n ≤ 1 := by rcases hi with h | h; omega; have := h.bd; omega
    rw [if_pos (show c.kind.toNat = 3 by omega), if_pos k3]
    obtain ⟨a1, a2, a3⟩ := tk_app (av := leN 1 (c.n + 1).toNat) (bs := zs) (n := 1) (leN_len _ _)
    unfold numB
    rw [a1, a2, a3]
    refine fin _ k3.symm hs.symm ?_ hv0.symm (szz hz) rfl
    show ((leV (leN 1 (c.n + 1).toNat) : Nat) : Int) - 1 = c.n
    rw [leV_nat (by omega) (by omega)]; omega
  rw [if_neg (show ¬ c.kind.toNat = 3 by omega), if_neg k3]
  have k4 : c.kind = 4 := by omega
  obtain ⟨hvv, hs, hn, hz⟩ : c.ver ≤ 281474976710656 ∧ c.slot = 0 ∧ c.n = 0 ∧ SZ c.to := by rcases hc with h | h | h | h; omega; omega; omega; exact h.2
  rw [if_pos (show c.kind.toNat = 4 by omega)]
  obtain ⟨a1, a2, a3⟩ := tk_app (av := leN 8 c.ver.toNat) (bs := zs) (n := 8) (leN_len _ _)
  unfold numB
  rw [a1, a2, a3]
  refine fin _ k4.symm hs.symm hn.symm ?_ (szz hz) rfl
  exact leV_nat hv (by omega)
theorem pGo_cBy : ∀ (l : List Ch) (zs : List Int), (∀ c ∈ l, CRight c) → (∀ c ∈ l, 0 ≤ c.ver) → ∃ l', pGo l.length (l.flatMap cBy ++ zs) 0 = some (l', zs, 0) ∧ chs l' = chs l ∧ l'.length = l.length
  | [], zs, _, _ => ⟨[], rfl, rfl, rfl⟩
  | c :: l, zs, hc, hv => by
    obtain ⟨d1, d2, d3⟩ := dec_cBy (zs := l.flatMap cBy ++ zs) (hc c List.mem_cons_self) (hv c List.mem_cons_self)
    obtain ⟨l', h1, h2, h3⟩ := pGo_cBy l zs (fun c h => hc c (List.mem_cons_of_mem _ h)) (fun c h => hv c (List.mem_cons_of_mem _ h))
    refine ⟨(dec (cBy c ++ (l.flatMap cBy ++ zs)) 0).1 :: l', ?_, ?_, by simp [h3]⟩
    · show pGo (l.length + 1) ((cBy c ++ l.flatMap cBy) ++ zs) 0 = _
      rw [List.append_assoc]
      show (if DOk (dec (cBy c ++ (l.flatMap cBy ++ zs)) 0) then _ else _) = _
      rw [if_pos d3, d2, d3.2.1, h1]; rfl
    · show chC _ ++ chs l' = chC c ++ chs l
      rw [d1, h2]
theorem lBy_ok (h : TOk l) : lBy l = leN 1 l.length ++ l.flatMap cBy := if_pos h
theorem lBy_num (h : TOk l) (r : List Int) : numB (leN 1 l.length ++ r) 0 1 = l.length ∧ tkR (leN 1 l.length ++ r) 0 1 = r ∧ tkE (leN 1 l.length ++ r) 0 1 = 0 := by
  obtain ⟨a1, a2, a3⟩ := tk_app (av := leN 1 l.length) (bs := r) (n := 1) (leN_len _ _)
  refine ⟨?_, a2, a3⟩
  unfold numB
  rw [a1]
  exact leV_leN _ _ (by have := h.1; omega)
theorem get_put (h : TOk l) (hv : ∀ c ∈ l, 0 ≤ c.ver) : ∃ l', tGet (lBy l) = (l', 0) ∧ chs l' = chs l ∧ l'.length = l.length := by
  obtain ⟨l', h1, h2, h3⟩ := pGo_cBy l [] h.2 hv
  rw [List.append_nil] at h1
  obtain ⟨a1, a2, a3⟩ := lBy_num h (l.flatMap cBy)
  refine ⟨l', ?_, h2, h3⟩
  rw [lBy_ok h]
  unfold tGet
  rw [a1, a2, a3, if_pos h.1, h1]
  rfl
theorem tBy_ok (h : TRight t) : tBy t = sBy t.a ++ sBy t.b ++ leN 1 t.act.toNat ++ leN 1 (t.boo + 1).toNat ++ leN 8 t.flo.toNat := if_pos h
theorem tBy_len (h : TRight t) : (tBy t).length = 102 := by rw [tBy_ok h]; simp [sBy_len, leN_len]
theorem parse_bytes (h : TRight t) (hf : 0 ≤ t.flo) : ∃ t', tParse (tBy t) = (t', 0) ∧ tbC t' = tbC t := by
  have n3 := h.2.2.1.bd
  have n4 : -1 ≤ t.boo ∧ t.boo ≤ 1 := by rcases h.2.2.2.1 with h | h; omega; have := h.bd; omega
  have n5 := h.2.2.2.2
  have e1 : tBy t = sBy t.a ++ (sBy t.b ++ (leN 1 t.act.toNat ++ (leN 1 (t.boo + 1).toNat ++ (leN 8 t.flo.toNat ++ [])))) := by rw [tBy_ok h]; simp
  have d1 : ∀ r, (sBy t.a ++ r).drop 46 = r := fun r => List.drop_left' sBy_len
  have d2 : ∀ r, (sBy t.a ++ (sBy t.b ++ r)).drop 92 = r := fun r => by rw [show 92 = 46 + 46 from rfl, ← List.drop_drop, d1, List.drop_left' sBy_len]
  have d3 : ∀ r, (sBy t.a ++ (sBy t.b ++ (leN 1 t.act.toNat ++ r))).drop 93 = r := fun r => by rw [show 93 = 92 + 1 from rfl, ← List.drop_drop, d2, List.drop_left' (leN_len _ _)]
  have d4 : ∀ r, (sBy t.a ++ (sBy t.b ++ (leN 1 t.act.toNat ++ (leN 1 (t.boo + 1).toNat ++ r)))).drop 94 = r := fun r => by rw [show 94 = 93 + 1 from rfl, ← List.drop_drop, d3, List.drop_left' (leN_len _ _)]
  have et : tabOf (tBy t) = ⟨slOf (sBy t.a), slOf (sBy t.b), t.act, t.boo, t.flo⟩ := by
    unfold tabOf
    rw [e1, d1, d2, d3, d4, List.take_left' sBy_len, List.take_left' sBy_len, List.take_left' (leN_len _ _), List.take_left' (leN_len _ _), List.take_left' (leN_len _ _), leV_nat n3.1 (by omega), leV_nat (by omega) (by omega), leV_nat hf (by omega)]
    congr 1
    omega
  have ea := slOf_sBy h.1
  have eb := slOf_sBy h.2.1
  refine ⟨tabOf (tBy t), ?_, ?_⟩
  · unfold tParse
    rw [if_pos]
    refine ⟨tBy_len h, ?_⟩
    rw [et]
    exact ⟨(SRight_congr ea).2 h.1, (SRight_congr eb).2 h.2.1, h.2.2⟩
  · rw [et]
    show slC _ ++ (slC _ ++ _) = slC t.a ++ (slC t.b ++ _)
    rw [ea, eb]
theorem ap1_right {c : Ch} {t' : Tb} (h : TRight t) (hc : CRight c) (h1 : ap1 t c = some t') : TRight t' := by
  have hg : Goes t c := by
    refine ⟨hc, fun h4 => ?_⟩
    unfold ap1 at h1
    rw [if_neg (by omega), if_neg (by omega), if_neg (by omega)] at h1
    split at h1
    · cases h1
    · omega
  obtain ⟨t2, e, r, _⟩ := ap1_ok h hg
  rw [h1] at e
  cases e
  exact r
theorem apL_right : ∀ (l : List Ch) {t t' : Tb}, TRight t → (∀ c ∈ l, CRight c) → apL t l = some t' → TRight t'
  | [], t, t', h, _, e => by cases e; exact h
  | c :: l, t, t', h, hc, e => by
    have e : (match ap1 t c with | some t' => apL t' l | none => none) = some t' := e
    cases h1 : ap1 t c with
    | none => rw [h1] at e; cases e
    | some t1 =>
      rw [h1] at e
      exact apL_right l (ap1_right h (hc c List.mem_cons_self) h1) (fun c hc' => hc c (List.mem_cons_of_mem _ hc')) e
end J
set_option linter.unusedVariables false
set_option maxRecDepth 100000
namespace J
open Go Go.Ab
variable {H : Heap} {Γ G : List (Nat × Blk)} {K : Value → Heap → Prop} {v w x : Value} {xs ys bs : List Int} {j p : Nat} {e : Int} {l : List Ch} {t : Tb}
def InG (G : List (Nat × Blk)) (p : Nat) (cs : List Value) : Prop := ∃ (j : Nat), G[j]? = some (p, (⟨cs, true⟩ : Blk))
theorem InG.app {Δ : List (Nat × Blk)} {cs : List Value} (h : InG G p cs) : InG (G ++ Δ) p cs := by
  obtain ⟨j, h⟩ := h
  exact ⟨j, at_l h⟩
theorem InG.last {cs : List Value} : InG (G ++ [(p, ⟨cs, true⟩)]) p cs := ⟨G.length + 0, at_r rfl⟩
theorem tBy_no (h : ¬ TRight t) : tBy t = [] := if_neg h
theorem By_tBy (ha : ∀ i, 0 ≤ t.a.dg i ∧ t.a.dg i ≤ 255) (hb : ∀ i, 0 ≤ t.b.dg i ∧ t.b.dg i ≤ 255) : By (tBy t) := by
  by_cases h : TRight t
  · rw [tBy_ok h, ← sBy'_right h.1, ← sBy'_right h.2.1]
    exact ((((By_sBy' ha).app (By_sBy' hb)).app (By_leN _ _)).app (By_leN _ _)).app (By_leN _ _)
  · rw [tBy_no h]; intro x hx; cases hx
end J
