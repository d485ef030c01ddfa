/- texts of the proof, one behind the other -/
import Derived.Test.YtnemiikeflojaaaUF
set_option linter.unusedVariables false
set_option linter.unusedSimpArgs false
set_option maxRecDepth 100000
namespace J
open Go Go.Ab
variable {H : Heap} {Γ Γ0 Γ2 Δ G : List (Nat × Blk)} {K : Value → Heap → Prop} {v w x : Value} {xs ys zs bs b data : List Int} {j p pd pz : Nat} {e : Int} {cs : List Value} {s : List Int} {m : Mp} {L : Mloc} {M : Rm} {part pos : Int} {ss : List (List Int)}
def secF (b : List Int) (y i : Nat) : Int := if 64 * y + i < b.length then b.getD (64 * y + i) 0 else 255
def secY (b : List Int) (y : Nat) : List Int := (List.range 64).map (secF b y)
theorem secY_len {y : Nat} : (secY b y).length = 64 := by simp [secY]
def preY (b : List Int) (y i : Nat) : List Int := (List.range i).map (secF b y) ++ List.replicate (64 - i) 0
theorem preY_64 {y : Nat} : preY b y 64 = secY b y := by simp [preY, secY]
theorem preY_0 {y : Nat} : preY b y 0 = zeros := rfl
theorem preY_len {y i : Nat} (h : i ≤ 64) : (preY b y i).length = 64 := by simp [preY]; omega
theorem preY_set {y i : Nat} {a : Int} (h : i < 64) : (by8 (preY b y i)).set i (.int .u8 a) = by8 ((List.range i).map (secF b y) ++ (a :: List.replicate (64 - (i + 1)) 0)) := by
  unfold preY by8
  rw [← List.map_set, List.set_append_right _ _ (by simp)]
  simp only [List.length_map, List.length_range, Nat.sub_self]
  rw [show 64 - i = (64 - (i + 1)) + 1 by omega, List.replicate_succ, List.set_cons_zero]
theorem preY_set2 {y i : Nat} {a c : Int} (h : i < 64) : (by8 ((List.range i).map (secF b y) ++ (c :: List.replicate (64 - (i + 1)) 0))).set i (.int .u8 a) = by8 ((List.range i).map (secF b y) ++ (a :: List.replicate (64 - (i + 1)) 0)) := by
  unfold by8
  rw [← List.map_set, List.set_append_right _ _ (by simp)]
  simp only [List.length_map, List.length_range, Nat.sub_self, List.set_cons_zero]
theorem preY_succ {y i : Nat} : preY b y (i + 1) = (List.range i).map (secF b y) ++ (secF b y i :: List.replicate (64 - (i + 1)) 0) := by
  unfold preY
  rw [List.range_succ, List.map_append]
  simp
theorem s_L1 {t1 t2 t3 t4 t5 : Value} {y p7 : Nat} {Qx : Nat → List Value → Heap → Prop} {Qr : List Value → Heap → Prop} (hv : RdB Γ v b) (hb : ∀ x ∈ b, 0 ≤ x ∧ x ≤ 255) (hl : b.length ≤ 600) (hy : 64 * y ≤ b.length)
    (hO : St H (Γ ++ [(p7, ⟨by8 zeros, true⟩)]))
    (hk : ∀ H', St H' (Γ ++ [(p7, ⟨by8 (secY b y), true⟩)]) → Qx 2 [v, t1, t2, t3, t4, t5, int ((64 * y : Nat) : Int), ptr p7 0] H') :
    wLoop P true 139 law12_BootSound_P1 3811 [v, t1, t2, t3, t4, t5, int ((64 * y : Nat) : Int), ptr p7 0, int 0] H Qx Qr := by
  rw [← preY_0 (b := b) (y := y)] at hO
  refine law12_BootSound_L1_ind (fun k l' H' => ∃ (i : Nat), i ≤ 64 ∧ k = 64 - i ∧ l' = [v, t1, t2, t3, t4, t5, int ((64 * y : Nat) : Int), ptr p7 0, int i] ∧ St H' (Γ ++ [(p7, ⟨by8 (preY b y i), true⟩)])) _ _ ?_ 64 _ _ ⟨0, by omega, rfl, rfl, hO⟩
  clear hO
  rintro k l' H ⟨i, hi, rfl, rfl, hO⟩
  unfold law12_BootSound_L1
  try simp only [nth_zero, nth_succ]
  refine opP_i bin_lss ?_
  refine wIf_dec (fun h => ?_) (fun h => ?_)
  · have hi64 : i < 64 := by omega
    refine opP_i (idxPtr_ok (by omega) (by omega)) ?_
    rw [Int.toNat_natCast]
    refine store1_at hO (Γ.length + 0) (at_r rfl) rfl (by rw [by8_len, preY_len (by omega)]; omega) (show _ = by8 ((List.range i).map (secF b y) ++ (255 :: List.replicate (64 - (i + 1)) 0)) from ?_) ?_
    · rw [show 0 + i * 1 = i by omega]; exact preY_set hi64
    clear hO
    intro H hO
    replace hO := hO.set_r
    refine opP_i (v := int ((64 * y + i : Nat) : Int)) (by rw [bin_addi (by omega) (by omega)]; congr 2 <;> omega) ?_
    refine opW_i hv.lenSl ?_
    refine opP_i bin_lss ?_
    refine wIf_dec (fun h2 => ?_) (fun h2 => ?_)
    · have hlt : 64 * y + i < b.length := by omega
      refine opP_i (v := int ((64 * y + i : Nat) : Int)) (by rw [bin_addi (by omega) (by omega)]; congr 2 <;> omega) ?_
      have g := by_getD hb (64 * y + i)
      refine by_at hO hv.app hb rfl (by omega) ?_
      refine opP_i (idxPtr_ok (by omega) (by omega)) ?_
      rw [Int.toNat_natCast]
      have e1 : ((b.getD (64 * y + i) 0).toNat : Int) = secF b y i := by
        unfold secF
        rw [if_pos hlt]
        have := (hb _ (List.getElem_mem hlt)).1
        rw [List.getD_eq_getElem?_getD, List.getElem?_eq_getElem hlt]
        show ((b[64 * y + i]).toNat : Int) = b[64 * y + i]
        omega
      refine store1_at hO (Γ.length + 0) (at_r rfl) rfl (by rw [by8_len]; simp <;> omega) (show _ = by8 (preY b y (i + 1)) from ?_) ?_
      · rw [show 0 + i * 1 = i by omega, preY_succ, ← e1]; try exact preY_set2 hi64
      clear hO
      intro H hO
      replace hO := hO.set_r
      repeat (first | refine oi ?_ | refine ow ?_ | refine wy ?_ | refine wn ?_ | refine wt ?_ | refine wf' ?_ | refine cy ?_ | refine cn ?_)
      exact ⟨64 - (i + 1), by omega, i + 1, by omega, rfl, rfl, hO⟩
    · have e1 : (255 : Int) = secF b y i := by
        unfold secF
        rw [if_neg (by omega)]
      rw [e1, ← preY_succ] at hO
      repeat (first | refine oi ?_ | refine ow ?_ | refine wy ?_ | refine wn ?_ | refine wt ?_ | refine wf' ?_ | refine cy ?_ | refine cn ?_)
      exact ⟨64 - (i + 1), by omega, i + 1, by omega, rfl, rfl, hO⟩
  · have ei : i = 64 := by omega
    subst ei
    rw [preY_64] at hO
    exact hk H hO
theorem bsSec' (g : Nat → Int) (H : Heap) : (buildSliceC P 35 1).f [(0, sec ((List.range 64).map g))] H = some (sl H.next 0 1 129, H.push (by8 ((List.range 64).map g))) := by kernel_rfl
theorem bsSec (h : s.length = 64) (H : Heap) : (buildSliceC P 35 1).f [(0, sec s)] H = some (sl H.next 0 1 129, H.push (by8 s)) := by
  obtain ⟨g, rfl⟩ := sec_fn h
  exact bsSec' g H
theorem bsSec0 (H : Heap) : (buildSliceC P 35 0).f [] H = some (sl H.next 0 0 129, H.push []) := by kernel_rfl
def secs (b : List Int) (n : Nat) : List (List Int) := (List.range n).map (secY b)
theorem secs_succ {n : Nat} : secs b (n + 1) = secs b n ++ [secY b n] := by simp [secs, List.range_succ]
theorem secs_len {n : Nat} : (secs b n).length = n := by simp [secs]
def sbC (ss : List (List Int)) : List Value := ss.flatMap by8
theorem sbC_snoc {s : List Int} : sbC ss ++ by8 s = sbC (ss ++ [s]) := by simp [sbC]
theorem s_L0 {t1 t2 t3 t4 : Value} {w : Value} {Qx : Nat → List Value → Heap → Prop} {Qr : List Value → Heap → Prop} (hv : RdB Γ v b) (hb : ∀ x ∈ b, 0 ≤ x ∧ x ≤ 255) (hl : b.length ≤ 600)
    (hO : St H (Γ ++ outB w [])) (hw : Own 64 w 0 [])
    (hk : ∀ H' w', St H' (Γ ++ outB w' (sbC (secs b ((b.length + 63) / 64)))) → Own 64 w' ((b.length + 63) / 64) (sbC (secs b ((b.length + 63) / 64))) → Qx 0 [t1, t2, t3, t4, w'] H') :
    wLoop P true 139 law12_BootSound_P0 738 [v, t1, t2, t3, t4, w, int 0] H Qx Qr := by
  refine law12_BootSound_L0_ind (fun k l' H' => ∃ (y : Nat) (w : Value), y ≤ (b.length + 63) / 64 ∧ k = (b.length + 63) / 64 - y ∧ l' = [v, t1, t2, t3, t4, w, int ((64 * y : Nat) : Int)] ∧ St H' (Γ ++ outB w (sbC (secs b y))) ∧ Own 64 w y (sbC (secs b y))) _ _ ?_ ((b.length + 63) / 64) _ _ ⟨0, w, by omega, rfl, rfl, hO, hw⟩
  clear hO hw
  rintro k l' H ⟨y, w, hy, rfl, rfl, hO, hw⟩
  unfold law12_BootSound_L0
  try simp only [nth_zero, nth_succ]
  refine opW_i hv.lenSl ?_
  refine opP_i bin_lss ?_
  refine wIf_dec (fun h => ?_) (fun h => ?_)
  · refine opP_i bS ?_
    rw [zcS]
    refine new_at hO ?_
    clear hO
    intro p7 H hO
    refine storeAll_at hO (_ + 0) (at_r rfl) (by rw [by8_len]; rfl) (by rw [by8_len]; rfl) (by8_one _) ?_
    clear hO
    intro H hO
    replace hO := hO.set_r
    refine s_L1 (y := y) hv.app hb hl (by omega) hO ?_
    clear hO
    intro H hO
    refine cond_yes rfl ?_
    try simp only [nth_zero, nth_succ]
    refine loadAll_at hO (_ + 0) (at_r rfl) (by rw [by8_len, secY_len]) (by omega) ?_
    have hO2 := hO.left
    clear hO
    refine newSl_at hO2 (bsSec secY_len _) ?_
    clear hO2
    intro q H hO
    refine append_elem hO hw (by rw [by8_len, secY_len]) (by omega) (by8_one _) (by omega) (by omega) ?_
    clear hO hw
    intro w H hO hw
    rw [sbC_snoc, ← secs_succ] at hO hw
    refine opP_i (v := int ((64 * (y + 1) : Nat) : Int)) (by rw [bin_addi (by omega) (by omega)]; congr 2 <;> omega) ?_
    exact ⟨(b.length + 63) / 64 - (y + 1), by omega, y + 1, w, by omega, rfl, rfl, hO, hw⟩
  · have ey : y = (b.length + 63) / 64 := by omega
    subst ey
    exact hk H w hO hw
def mN (m : Mp) (part : Int) (ss : List (List Int)) : Nat → Mp
  | 0 => m
  | y + 1 => ((mN m part ss y).program part y (ss.getD y zeros)).1
def Mp.Byt (m : Mp) : Prop := ∀ c ∈ m.d.cells, ∀ x ∈ c.seen, 0 ≤ x ∧ x ≤ 255
theorem program_byt (h : m.Byt) (hs : ∀ x ∈ s, 0 ≤ x ∧ x ≤ 255) : (m.program part pos s).1.Byt := by
  have hp : ∀ a, ∀ c ∈ ((m.d.program a s).1).cells, ∀ x ∈ c.seen, 0 ≤ x ∧ x ≤ 255 := by
    intro a
    unfold Dv.program
    split
    · exact h
    split
    · exact h
    split
    · exact h
    split
    · exact h
    intro c hc
    rcases List.mem_or_eq_of_mem_set hc with hc | rfl
    · exact h c hc
    · exact hs
  unfold Mp.program
  split
  · exact h
  · unfold Mp.note
    split
    · exact hp _
    · exact hp _
theorem program_spans : (m.program part pos s).1.spans = m.spans := by
  unfold Mp.program
  split
  · rfl
  · unfold Mp.note
    split <;> rfl
structure NOk (m0 m : Mp) (n : Nat) : Prop where
  ok : m.Ok
  sm : m.Sm n
  b : m.Byt
  s : m.spans = m0.spans
theorem NOk.go {m0 : Mp} {n : Nat} (h : NOk m0 m n) (hl : s.length = 64) (hs : ∀ x ∈ s, 0 ≤ x ∧ x ≤ 255) : NOk m0 (m.program part pos s).1 (n + 1) :=
  ⟨Mp.program_ok h.ok hl, Mp.program_sm h.sm, program_byt h.b hs, program_spans.trans h.s⟩
def SsOk (ss : List (List Int)) : Prop := ∀ s ∈ ss, s.length = 64 ∧ ∀ x ∈ s, 0 ≤ x ∧ x ≤ 255
theorem SsOk.get (h : SsOk ss) {y : Nat} (hy : y < ss.length) : (ss.getD y zeros).length = 64 ∧ ∀ x ∈ ss.getD y zeros, 0 ≤ x ∧ x ≤ 255 := by
  rw [List.getD_eq_getElem?_getD, List.getElem?_eq_getElem hy]
  exact h _ (List.getElem_mem hy)
theorem mN_ok {m0 : Mp} (h : NOk m0 m0 0) (hs : SsOk ss) : ∀ n, n ≤ ss.length → NOk m0 (mN m0 part ss n) n
  | 0, _ => h
  | n + 1, hn => (mN_ok h hs n (by omega)).go (hs.get (by omega)).1 (hs.get (by omega)).2
theorem ss_at {y : Nat} (hs : SsOk ss) (hy : y < ss.length) : ((sbC ss).drop (y * 64)).take 64 = by8 (ss.getD y zeros) := by
  have h1 := flat_at (f := by8) (l := ss) (n := 64) (o := 0) (m := 64) (fun s hx => by rw [by8_len]; exact (hs s hx).1) hy (by omega)
  rw [Nat.add_zero] at h1
  unfold sbC
  rw [h1, List.drop_zero, List.getD_eq_getElem?_getD, List.getElem?_eq_getElem hy]
  exact List.take_of_length_le (by rw [by8_len, (hs _ (List.getElem_mem hy)).1]; exact Nat.le_refl _)
theorem s_L2 {m0 : Mp} {t1 t2 t3 v4 : Value} {w : Value} {Qx : Nat → List Value → Heap → Prop} {Qr : List Value → Heap → Prop} (hs : SsOk ss) (hn : NOk m0 m0 0) (hl : ss.length ≤ 9) (hj : ss.length ≠ 0 → ∃ (q c j : Nat), w = sl q 0 ss.length c ∧ Γ[j]? = some (q, ⟨sbC ss, true⟩))
    (hO : St H (Γ ++ MW L m0)) (hv : Mown L m0)
    (hk : ∀ H' L', L.Eq L' → St H' (Γ ++ MW L' (mN m0 1 ss ss.length)) → Mown L' (mN m0 1 ss ss.length) → Qx 4 [t1, t2, t3, ptr L.pm 0, v4] H') :
    wLoop P true 139 law12_BootSound_P2 738 [t1, t2, t3, ptr L.pm 0, v4, w, int ss.length, int 0] H Qx Qr := by
  refine law12_BootSound_L2_ind (fun k l' H' => ∃ (y : Nat) (L' : Mloc), y ≤ ss.length ∧ k = ss.length - y ∧ L.Eq L' ∧ l' = [t1, t2, t3, ptr L.pm 0, v4, w, int ss.length, int y] ∧ St H' (Γ ++ MW L' (mN m0 1 ss y)) ∧ Mown L' (mN m0 1 ss y)) _ _ ?_ ss.length _ _ ⟨0, L, by omega, rfl, ⟨rfl, rfl, rfl, rfl⟩, rfl, hO, hv⟩
  clear hO hv
  rintro k l' H ⟨y, L', hy, rfl, he, rfl, hO, hv⟩
  unfold law12_BootSound_L2
  try simp only [nth_zero, nth_succ]
  refine opP_i bin_lss ?_
  refine wIf_dec (fun h => ?_) (fun h => ?_)
  · have hyl : y < ss.length := by omega
    obtain ⟨q, c, j, rfl, hj2⟩ := hj (by omega)
    have hg := hs.get hyl
    have hno := mN_ok (part := 1) hn hs y hy
    refine opP_i (idxSl_ok (by omega) (by omega)) ?_
    rw [Nat.zero_add, Int.toNat_natCast]
    refine loadAgg_at hO j (at_l hj2) (ss_at hs hyl) (by rw [by8_len]; exact hg.1) (by omega) ?_
    rw [zcS]
    refine new_at hO ?_
    clear hO
    intro p14 H hO
    refine storeAll_at hO (_ + 0) (at_r rfl) (by rw [by8_len]; rfl) (by rw [by8_len]; exact hg.1) (by8_one _) ?_
    clear hO
    intro H hO
    replace hO := hO.set_r
    refine loadAll_at hO (_ + 0) (at_r rfl) (by rw [by8_len]; exact hg.1) (by omega) ?_
    have hO2 := hO.left
    clear hO
    rw [← he.m]
    refine mProgram_spec hno.ok hg.1 (hno.sm.mono (by omega)) hO2 hv ?_
    clear hO2
    intro H L2 he2 hO hv
    repeat (first | refine oi ?_ | refine ow ?_ | refine wy ?_ | refine wn ?_ | refine wt ?_ | refine wf' ?_ | refine cy ?_ | refine cn ?_)
    refine ⟨ss.length - (y + 1), by omega, y + 1, L2, by omega, rfl, he.trans he2, ?_, hO, hv⟩
    rw [he.m]; rfl
  · have ey : y = ss.length := by omega
    subst ey
    exact hk H L' he hO hv
theorem s_L3 {m0 : Mp} {t1 t2 t3 t4 t5 : Value} {w : Value} {Qx : Nat → List Value → Heap → Prop} {Qr : List Value → Heap → Prop} (hs : SsOk ss) (hn : NOk m0 m0 0) (hl : ss.length ≤ 9) (hj : ss.length ≠ 0 → ∃ (q c j : Nat), w = sl q 0 ss.length c ∧ Γ[j]? = some (q, ⟨sbC ss, true⟩))
    (hO : St H (Γ ++ RM M m0)) (hv : RMok M m0)
    (hk : ∀ H' M', M'.pm = M.pm → St H' (Γ ++ RM M' (mN m0 1 ss ss.length)) → RMok M' (mN m0 1 ss ss.length) → Qx 6 [t1, t2, t3, t4, t5, ptr M.pm 0] H') :
    wLoop P true 139 law12_BootSound_P3 458976 [t1, t2, t3, t4, t5, ptr M.pm 0, w, int ss.length, int 0] H Qx Qr := by
  refine law12_BootSound_L3_ind (fun k l' H' => ∃ (y : Nat) (M' : Rm), y ≤ ss.length ∧ k = ss.length - y ∧ M'.pm = M.pm ∧ l' = [t1, t2, t3, t4, t5, ptr M.pm 0, w, int ss.length, int y] ∧ St H' (Γ ++ RM M' (mN m0 1 ss y)) ∧ RMok M' (mN m0 1 ss y)) _ _ ?_ ss.length _ _ ⟨0, M, by omega, rfl, rfl, rfl, hO, hv⟩
  clear hO hv
  rintro k l' H ⟨y, M', hy, rfl, he, rfl, hO, hv⟩
  unfold law12_BootSound_L3
  try simp only [nth_zero, nth_succ]
  refine opP_i bin_lss ?_
  refine wIf_dec (fun h => ?_) (fun h => ?_)
  · have hyl : y < ss.length := by omega
    obtain ⟨q, c, j, rfl, hj2⟩ := hj (by omega)
    have hg := hs.get hyl
    have hno := mN_ok (part := 1) hn hs y hy
    refine opP_i (idxSl_ok (by omega) (by omega)) ?_
    rw [Nat.zero_add, Int.toNat_natCast]
    refine loadAgg_at hO j (at_l hj2) (ss_at hs hyl) (by rw [by8_len]; exact hg.1) (by omega) ?_
    rw [zcS]
    refine new_at hO ?_
    clear hO
    intro p14 H hO
    refine storeAll_at hO (_ + 0) (at_r rfl) (by rw [by8_len]; rfl) (by rw [by8_len]; exact hg.1) (by8_one _) ?_
    clear hO
    intro H hO
    replace hO := hO.set_r
    refine loadAll_at hO (_ + 0) (at_r rfl) (by rw [by8_len]; exact hg.1) (by omega) ?_
    have hO2 := hO.left
    clear hO
    rw [← he]
    refine r7Program_spec hno.ok hg.1 (hno.sm.mono (by omega)) hv hO2 ?_
    clear hO2
    intro H M2 hO he2 _ hv
    repeat (first | refine oi ?_ | refine ow ?_ | refine wy ?_ | refine wn ?_ | refine wt ?_ | refine wf' ?_ | refine cy ?_ | refine cn ?_)
    refine ⟨ss.length - (y + 1), by omega, y + 1, M2, by omega, rfl, he2, rfl, hO, hv⟩
  · have ey : y = ss.length := by omega
    subst ey
    exact hk H M' he hO hv
end J
set_option linter.unusedVariables false
set_option linter.unusedSimpArgs false
set_option maxRecDepth 100000
namespace J
open Go Go.Ab
variable {H : Heap} {Γ Γ0 Γ2 Δ G : List (Nat × Blk)} {K : Value → Heap → Prop} {v w x : Value} {xs ys zs bs b data : List Int} {j p pd pz : Nat} {e : Int} {cs : List Value} {s : Sl} {m : Mp} {L : Mloc} {M : Rm} {part pos : Int} {ss : List (List Int)}
def sm0 : Mp := ⟨Dv.new 10 100, spansFrom 0 [1, 9], 0, []⟩
theorem size_of {m m' : Mp} (h : m.spans = m'.spans) : m.size part = m'.size part := by
  obtain ⟨d, sp, w, o⟩ := m
  obtain ⟨d', sp', w', o'⟩ := m'
  cases (show sp = sp' from h)
  rfl
theorem size_1 (h : m.spans = sm0.spans) : m.size 1 = 9 := (size_of h).trans rfl
theorem size_7 (h : m.spans = sm0.spans) : m.size 7 = 0 := (size_of h).trans rfl
theorem zeros_by : ∀ x ∈ zeros, 0 ≤ x ∧ x ≤ 255 := fun x hx => by
  have := (List.mem_replicate.1 (show x ∈ List.replicate 64 0 from hx)).2
  omega
theorem read_by (h : m.Byt) : ∀ x ∈ (m.read part pos).1, 0 ≤ x ∧ x ≤ 255 := by
  unfold Mp.read
  split
  · exact zeros_by
  · unfold Dv.read
    split
    · rename_i _ h2
      obtain ⟨hi, ei⟩ := Dv.get h2
      intro x hx
      refine h _ (List.getElem_mem hi) x ?_
      rw [ei]; exact hx
    · exact zeros_by
theorem all_by (h : m.Byt) : ∀ x ∈ m.all part, 0 ≤ x ∧ x ≤ 255 := by
  intro x hx
  unfold Mp.all Mp.upto at hx
  obtain ⟨i, _, hx⟩ := List.mem_flatMap.1 hx
  exact read_by h x hx
theorem sm0_ok : NOk sm0 sm0 0 := by
  refine ⟨⟨Dv.new_ok (by omega) (by omega), fun x hx => ?_, by show 2 ≤ 16; omega⟩, ⟨Nat.le_refl _, Nat.le_refl _⟩, ?_, rfl⟩
  · have e : sm0.d.cells.length = 10 := List.length_replicate
    have hx : x ∈ [(0, 1), (0 + 1, 9)] := hx
    rw [e]
    simp at hx
    rcases hx with rfl | rfl <;> decide
  · intro c hc x hx
    have hc : c ∈ List.replicate 10 bCell0 := hc
    rw [(List.mem_replicate.1 hc).2] at hx
    have := (List.mem_replicate.1 (show x ∈ List.replicate 64 255 from hx)).2
    omega
theorem new_rok {R : Rl} (h : Rok R (Dv.new 10 100)) {pm q : Nat} : RMok ⟨pm, q, nilSl, R⟩ sm0 := ⟨h, .inl ⟨rfl, rfl, rfl⟩, rfl⟩
theorem secs_ok (hb : ∀ x ∈ b, 0 ≤ x ∧ x ≤ 255) {n : Nat} : SsOk (secs b n) := by
  intro s hs
  obtain ⟨y, _, rfl⟩ := List.mem_map.1 hs
  refine ⟨secY_len, fun x hx => ?_⟩
  obtain ⟨i, _, rfl⟩ := List.mem_map.1 hx
  unfold secF
  split
  · rename_i h
    rw [List.getD_eq_getElem?_getD, List.getElem?_eq_getElem h]
    exact hb _ (List.getElem_mem h)
  · omega
theorem bInt2 (a b : Int) (H : Heap) : (buildSliceC P 43 2).f [(0, int a), (1, int b)] H = some (sl H.next 0 2 3, H.push [int a, int b]) := by kernel_rfl
theorem eqNil (p : Nat) : (binC P .eql 29 true).f (ptr p 0) (.pointer none) = some (.bool false) := by kernel_rfl
theorem bWhole (n : Int) : (buildC P 27).f [(0, int 3), (2, .int .u64 1), (3, int n)] = some (agg (slC ⟨3, 0, 1, n, fun _ => 0⟩)) := by kernel_rfl
theorem bRmap (p q : Nat) : (buildC P 46).f [(0, ptr p 0), (1, sl q 0 2 3)] = some (agg [ptr p 0, sl q 0 2 3, int 0, nilSl]) := by kernel_rfl
theorem own_at (h : Own 64 w ss.length (sbC ss)) (h0 : ss.length ≠ 0) : ∃ (q c j : Nat), w = sl q 0 ss.length c ∧ (Γ ++ outB w (sbC ss))[j]? = some (q, ⟨sbC ss, true⟩) := by
  rcases h with ⟨_, h, _⟩ | ⟨p, rfl | rfl, _⟩
  · exact absurd h h0
  · exact ⟨p, _, Γ.length + 0, rfl, at_r rfl⟩
  · exact ⟨p, _, Γ.length + 0, rfl, at_r rfl⟩
theorem eqB (a c : Bool) : (binC P .eql 4 false).f (.bool a) (.bool c) = some (.bool (a == c)) := by cases a <;> cases c <;> kernel_rfl
def wholeS (all : List Int) (n : Nat) : Sl := ⟨3, 0, 1, n, dgL (sha (all.take n))⟩
theorem whole_sound {all : List Int} {n : Nat} (h1 : 1 ≤ n) (h2 : n ≤ all.length) (h3 : n ≤ 65536) : SSound all (wholeS all n) := by
  refine ⟨.inr (.inr ⟨rfl, rfl, by show (1 : Int) ≤ 1; decide, by show (1 : Int) ≤ 281474976710656; decide, by show (1 : Int) ≤ n; omega, by show (n : Int) ≤ 65536; omega⟩), .inr rfl, by show (n : Int) ≤ _; omega, ?_⟩
  show eqCells (dgC (dgL (sha (all.take (n : Int).toNat)))) (dgC (dgL (sha (all.take n)))) = true
  rw [Int.toNat_natCast]
  exact eqCells_self (fitD _)
theorem whole_none {all : List Int} {n : Nat} (h1 : 1 ≤ n) : ¬ SSound [] (wholeS all n) := fun h => by
  have h := h.2.2.1
  have h : (n : Int) ≤ 0 := h
  omega
theorem zero_none {all : List Int} : ¬ SSound all (slz 0) := fun h => by
  rcases h.2.1 with h | h
  · exact absurd (show (0 : Int) = 2 from h) (by decide)
  · exact absurd (show (0 : Int) = 3 from h) (by decide)
theorem bSl0 : (buildC P 27).f [] = some (agg (slC (slz 0))) := by kernel_rfl
set_option maxHeartbeats 4000000 in
theorem sound_main {size : Int} (hO : St H G) (hv : RdB G v b) (hb : ∀ x ∈ b, 0 ≤ x ∧ x ≤ 255) : wCall P n_law12_BootSound [v, int size, agg (slC s)] H fun v _ => v = .bool true := by
  apply law12_BootSound_ok; unfold law12_BootSound
  refine new_at hO ?_
  clear hO
  intro p5 H hO
  replace hO : St H (G ++ [(p5, ⟨slC s, true⟩)]) := hO
  refine law12_bootAlive_spec ?_
  refine opP_i un_not ?_
  refine wIf_f rfl ?_
  refine opW_i hv.lenSl ?_
  refine opP_i bin_gtr ?_
  refine wIf_dec (fun h => ?_) (fun hl => ?_)
  · rfl
  refine dNew_spec (n := 10) (w := 100) (by omega) (by omega) hO ?_
  clear hO
  intro H pd pc hO
  refine newSl_at hO (bInt2 _ _ _) ?_
  clear hO
  intro q H hO
  replace hO := hO.rot
  refine mNew_spec (sizes := [1, 9]) (jz := (G ++ [(p5, (⟨slC s, true⟩ : Blk))]).length + 0) (Dv.new_ok (by omega) (by omega)) hO (at_r rfl) (by simp) (by simp) (fun n hn => ?_) ?_ (.inl ⟨rfl, rfl, rfl⟩) ?_
  · simp at hn; rcases hn with rfl | rfl <;> omega
  · show 1 + (9 + 0) ≤ (List.replicate 10 bCell0).length
    rw [List.length_replicate]; omega
  clear hO
  intro H pm ps hO hm
  refine opP_i ext0 ?_
  refine opP_i ext1 ?_
  refine opP_i (eqNil pm) ?_
  refine wIf_f rfl ?_
  replace hO : St H (((G ++ [(p5, ⟨slC s, true⟩)]) ++ [(q, ⟨[int 1, int 9], true⟩)]) ++ MW ⟨pm, pd, pc, ps, nilSl, nilSl⟩ sm0) := hO
  replace hm : Mown ⟨pm, pd, pc, ps, nilSl, nilSl⟩ sm0 := hm
  replace hO : St H ((G ++ [(p5, ⟨slC s, true⟩)]) ++ MW ⟨pm, pd, pc, ps, nilSl, nilSl⟩ sm0) := St.mid hO
  have hp : (⟨pm, pd, pc, ps, nilSl, nilSl⟩ : Mloc).pm = pm := rfl
  rw [← hp]
  generalize (⟨pm, pd, pc, ps, nilSl, nilSl⟩ : Mloc) = L at hO hm
  clear hp
  refine newSl_at hO (bsSec0 _) ?_
  clear hO
  intro q2 H hO
  have hO1 : St H (((G ++ [(p5, ⟨slC s, true⟩)]) ++ MW L sm0) ++ outB (sl q2 0 0 129) []) := hO
  have hw0 : Own 64 (sl q2 0 0 129) 0 [] := .inr ⟨q2, .inr rfl, rfl⟩
  clear hO
  refine s_L0 hv.app.app hb (by omega) hO1 hw0 ?_
  clear hO1 hw0
  intro H w hO hw
  refine cond_yes rfl ?_
  try simp only [nth_zero, nth_succ]
  generalize hN : (b.length + 63) / 64 = N at hO hw
  have hss := secs_ok hb (n := N)
  have hsl : (secs b N).length = N := secs_len
  replace hw : Own 64 w (secs b N).length (sbC (secs b N)) := by rw [hsl]; exact hw
  generalize secs b N = ss at hO hw hss hsl
  refine opW_i hw.lenSl ?_
  refine opP_i bin_gtr ?_
  refine wIf_dec (fun h => ?_) (fun hl9 => ?_)
  · first | rfl | trivial
  refine opW_i hw.lenSl ?_
  have hO2 : St H (((G ++ [(p5, ⟨slC s, true⟩)]) ++ outB w (sbC ss)) ++ MW L sm0) := hO.perm (by classical exact List.perm_iff_count.2 fun _ => by simp only [List.count_append, List.count_nil, List.set_cons_zero]; omega)
  clear hO
  refine s_L2 hss sm0_ok (by omega) (fun h => own_at hw h) hO2 hm ?_
  clear hO2 hm
  intro H L2 he hO hm
  refine cond_yes rfl ?_
  try simp only [nth_zero, nth_succ]
  rw [← he.m]
  clear he L
  generalize hM : mN sm0 1 ss ss.length = mf at hO hm
  have hno : NOk sm0 mf ss.length := by rw [← hM]; exact mN_ok sm0_ok hss _ (Nat.le_refl _)
  have hasz : mf.size 1 = 9 := size_1 hno.s
  have hal : (mf.all 1).length = 576 := by
    unfold Mp.all
    rw [Mp.upto_len hno.ok, hasz]
  have e7 : mf.all 7 = [] := by
    unfold Mp.all
    rw [size_7 hno.s]; rfl
  have hby : ∀ {part : Int}, ∀ x ∈ mf.all part, 0 ≤ x ∧ x ≤ 255 := all_by hno.b
  refine mAll_spec hno.ok hO ?_
  clear hO
  intro H va ca hO hva
  refine opW_i hva.lenSl ?_
  refine opP_i bin_neq ?_
  refine wIf_dec (fun h => by omega) (fun _ => ?_)
  refine opW_i min_w ?_
  refine opW_i max_w ?_
  obtain ⟨n, hn⟩ : ∃ n : Nat, max 1 (min size 576) = n := ⟨(max 1 (min size 576)).toNat, by omega⟩
  rw [hn]
  have h1 : 1 ≤ n := by omega
  have h2 : n ≤ 576 := by omega
  refine opP_i (bWhole n) ?_
  refine new_at hO ?_
  clear hO
  intro p17 H hO
  refine storeAll_at hO (_ + 0) (at_r rfl) rfl rfl rfl ?_
  clear hO
  intro H hO
  replace hO := hO.set_r
  replace hO : St H (((((G ++ [(p5, ⟨slC s, true⟩)]) ++ outB w (sbC ss)) ++ MW L2 mf) ++ outB va ca) ++ [(p17, ⟨slC ⟨3, 0, 1, n, fun _ => 0⟩, true⟩)]) := hO
  refine r6New_spec (n := 10) (w := 100) (by omega) (by omega) hO ?_
  clear hO
  intro H R hO hR
  replace hO : St H ((((((G ++ [(p5, ⟨slC s, true⟩)]) ++ outB w (sbC ss)) ++ MW L2 mf) ++ outB va ca) ++ [(p17, ⟨slC ⟨3, 0, 1, n, fun _ => 0⟩, true⟩)]) ++ RW R (Dv.new 10 100)) := hO
  replace hR : Rok R (Dv.new 10 100) := hR
  refine newSl_at hO (bInt2 _ _ _) ?_
  clear hO
  intro q3 H hO
  refine opP_i (bRmap _ _) ?_
  refine new_at hO ?_
  clear hO
  intro pw H hO
  refine opW_i hw.lenSl ?_
  replace hO : St H (((((((G ++ [(p5, ⟨slC s, true⟩)]) ++ outB w (sbC ss)) ++ MW L2 mf) ++ outB va ca) ++ [(p17, ⟨slC ⟨3, 0, 1, n, fun _ => 0⟩, true⟩)]) ++ RW R (Dv.new 10 100)) ++ [(q3, ⟨[int 1, int 9], true⟩)] ++ [(pw, ⟨[ptr R.pd 0, sl q3 0 2 3, int 0, nilSl], true⟩)]) := hO
  have hO2 : St H (((((G ++ [(p5, ⟨slC s, true⟩)]) ++ outB w (sbC ss)) ++ MW L2 mf) ++ [(p17, ⟨slC ⟨3, 0, 1, n, fun _ => 0⟩, true⟩)]) ++ (([(pw, ⟨[ptr R.pd 0, sl q3 0 2 3, int 0, nilSl], true⟩)] ++ [(q3, ⟨[int 1, int 9], true⟩)]) ++ ([] ++ RW R (Dv.new 10 100)))) := St.left (Δ := outB va ca) (hO.perm (by classical exact List.perm_iff_count.2 fun _ => by simp only [List.count_append, List.count_nil, List.set_cons_zero]; omega))
  clear hO
  replace hO2 : St H (((((G ++ [(p5, ⟨slC s, true⟩)]) ++ outB w (sbC ss)) ++ MW L2 mf) ++ [(p17, ⟨slC ⟨3, 0, 1, n, fun _ => 0⟩, true⟩)]) ++ RM ⟨pw, q3, nilSl, R⟩ sm0) := hO2
  have hM0 : RMok ⟨pw, q3, nilSl, R⟩ sm0 := new_rok hR
  have hp : (⟨pw, q3, nilSl, R⟩ : Rm).pm = pw := rfl
  rw [← hp]
  generalize (⟨pw, q3, nilSl, R⟩ : Rm) = M at hO2 hM0
  clear hp hva
  refine s_L3 hss sm0_ok (by omega) (fun h => ?_) hO2 hM0 ?_
  · obtain ⟨q, c, j, e, hj⟩ := own_at (Γ := G ++ [(p5, (⟨slC s, true⟩ : Blk))]) hw h
    exact ⟨q, c, j, e, at_l (at_l hj)⟩
  clear hO2 hM0
  intro H M2 hpm hO hM2
  refine cond_yes rfl ?_
  try simp only [nth_zero, nth_succ]
  rw [hM] at hO hM2
  rw [← hpm]
  clear hpm hM
  refine r7All_spec hno.ok (hno.sm.mono (by omega)) hM2 hO ?_
  clear hO
  intro H vb cb hO hvb
  obtain ⟨v2, e2, ih⟩ := slice_hi (n := n) hvb.rd (by omega)
  refine opP_i e2 ?_
  have hrd : RdB ((((((G ++ [(p5, (⟨slC s, true⟩ : Blk))]) ++ outB w (sbC ss)) ++ MW L2 mf) ++ [(p17, (⟨slC ⟨3, 0, 1, n, fun _ => 0⟩, true⟩ : Blk))]) ++ RM M2 mf) ++ outB vb cb) v2 ((mf.all 1).take n) := (ih _ hvb.rd).app'
  refine rSum_spec hO hrd (fun x hx => hby x (List.mem_of_mem_take hx)) (by rw [List.length_take]; omega) ?_
  clear hO
  intro H hO
  refine opP_i offPtr_ptr ?_
  have hO3 : St H ((((((G ++ [(p5, (⟨slC s, true⟩ : Blk))]) ++ outB w (sbC ss)) ++ RM M2 mf) ++ outB vb cb) ++ MW L2 mf) ++ [(p17, (⟨slC ⟨3, 0, 1, n, fun _ => 0⟩, true⟩ : Blk))]) := hO.perm (by classical exact List.perm_iff_count.2 fun _ => by simp only [List.count_append, List.count_nil, List.set_cons_zero]; omega)
  clear hO hrd
  rw [sha_dg]
  refine store_at hO3 (_ + 0) (at_r rfl) rfl (by show 0 + 4 + 32 ≤ 36; omega) rfl ?_
  clear hO3
  intro H hO
  replace hO := hO.set_r
  replace hO : St H ((((((G ++ [(p5, (⟨slC s, true⟩ : Blk))]) ++ outB w (sbC ss)) ++ RM M2 mf) ++ outB vb cb) ++ MW L2 mf) ++ [(p17, (⟨slC (wholeS (mf.all 1) n), true⟩ : Blk))]) := hO
  replace hO : St H ((((((G ++ [(p5, (⟨slC s, true⟩ : Blk))]) ++ [(p17, (⟨slC (wholeS (mf.all 1) n), true⟩ : Blk))]) ++ outB w (sbC ss)) ++ RM M2 mf) ++ outB vb cb) ++ MW L2 mf) := hO.perm (by classical exact List.perm_iff_count.2 fun _ => by simp only [List.count_append, List.count_nil, List.set_cons_zero]; omega)
  have i5 : ∀ {A B C D : List (Nat × Blk)}, ((((((G ++ [(p5, (⟨slC s, true⟩ : Blk))]) ++ [(p17, (⟨slC (wholeS (mf.all 1) n), true⟩ : Blk))]) ++ A) ++ B) ++ C) ++ D)[G.length + 0]? = some (p5, ⟨slC s, true⟩) := at_l (at_l (at_l (at_l (at_l (at_r rfl)))))
  have i17 : ∀ {A B C D : List (Nat × Blk)}, ((((((G ++ [(p5, (⟨slC s, true⟩ : Blk))]) ++ [(p17, (⟨slC (wholeS (mf.all 1) n), true⟩ : Blk))]) ++ A) ++ B) ++ C) ++ D)[(G ++ [(p5, (⟨slC s, true⟩ : Blk))]).length + 0]? = some (p17, ⟨slC (wholeS (mf.all 1) n), true⟩) := at_l (at_l (at_l (at_l (at_r rfl))))
  refine loadAgg_at hO _ i5 (show _ = slC s from rfl) rfl (by omega) ?_
  refine bootSound_spec hno.ok hby hO ?_
  intro H2 hO2
  refine loadAgg_at hO2 _ i5 (show _ = slC s from rfl) rfl (by omega) ?_
  refine ⟨same_at hO _ i5 hO2 _ i5 (slC_simple s), ?_⟩
  clear hO
  have hvb2 : RdB ((((((G ++ [(p5, (⟨slC s, true⟩ : Blk))]) ++ [(p17, (⟨slC (wholeS (mf.all 1) n), true⟩ : Blk))]) ++ outB w (sbC ss)) ++ RM M2 mf) ++ outB vb cb) ++ MW L2 mf) vb (mf.all 1) := (hvb.rd.app').app
  refine ref12_Sound_spec hO2 hvb2 hby (by omega) ?_
  clear hO2 hvb2
  intro H hO
  refine opP_i (eqB _ _) ?_
  refine wIf_t (beq_self_eq_true _) ?_
  refine loadAgg_at hO _ i17 (show _ = slC (wholeS (mf.all 1) n) from rfl) rfl (by omega) ?_
  refine bootSound_spec hno.ok hby hO ?_
  clear hO
  intro H hO
  rw [decide_eq_true (whole_sound h1 (by omega) (by omega)), beq_self_eq_true]
  refine opP_i pick_true ?_
  refine wIf_t rfl ?_
  refine loadAgg_at hO _ i17 (show _ = slC (wholeS (mf.all 1) n) from rfl) rfl (by omega) ?_
  refine bootSound_spec hno.ok hby hO ?_
  clear hO
  intro H hO
  rw [e7, decide_eq_false (whole_none h1)]
  refine opP_i un_not ?_
  refine opP_i pick_true ?_
  refine wIf_t rfl ?_
  refine opP_i bSl0 ?_
  refine bootSound_spec hno.ok hby hO ?_
  intro H hO
  rw [decide_eq_false zero_none]
  refine opP_i un_not ?_
  refine opP_i pick_true ?_
  rfl
end J
set_option linter.unusedVariables false
set_option maxRecDepth 100000
namespace J
open Go Go.Ab
variable {H : Heap} {Γ Γ0 Γ2 Δ G : List (Nat × Blk)} {K : Value → Heap → Prop} {v w x : Value} {xs : List Int}
def ArgB (Γ : List (Nat × Blk)) (v : Value) (xs : List Int) : Prop := (v = nilSl ∧ xs = []) ∨ ∃ (p j : Nat), v = sl p 0 xs.length 2 ∧ Γ[j]? = some (p, (⟨by8 xs, false⟩ : Blk))
theorem ArgB.rd (h : ArgB Γ v xs) : RdB Γ v xs := by
  rcases h with h | ⟨p, j, h1, h2⟩
  · exact .inl h
  · exact .inr ⟨p, 0, 2, h1, .inl rfl, .inr ⟨j, _, h2, by rw [List.drop_zero]; exact List.take_of_length_le (by rw [by8_len]; omega)⟩⟩
theorem shp_structH {P : Program} {t : TypeId} {fs : Array Field} (ht : P.underlying t = some (.struct fs)) {ts : List TypeId} {N : Nat} {c : List Value} {b : List (List Value)} (h : ShpL P (t :: ts) N c b) : ShpL P (fs.toList.map (·.type) ++ ts) N c b := by
  cases h with
  | struct hu h => rw [ht] at hu; cases hu; exact h
  | array hu _ => rw [ht] at hu; cases hu
  | int v hu _ _ => rw [ht] at hu; cases hu
  | bool v hu _ => rw [ht] at hu; cases hu
  | str v hu _ _ => rw [ht] at hu; cases hu
  | slNil hu _ => rw [ht] at hu; cases hu
  | sl len hu _ _ _ _ => rw [ht] at hu; cases hu
theorem shp_arrayH {P : Program} {t e : TypeId} {n : Nat} (ht : P.underlying t = some (.array n e)) {ts : List TypeId} {N : Nat} {c : List Value} {b : List (List Value)} (h : ShpL P (t :: ts) N c b) : ShpL P (List.replicate n e ++ ts) N c b := by
  cases h with
  | array hu h => rw [ht] at hu; cases hu; exact h
  | struct hu _ => rw [ht] at hu; cases hu
  | int v hu _ _ => rw [ht] at hu; cases hu
  | bool v hu _ => rw [ht] at hu; cases hu
  | str v hu _ _ => rw [ht] at hu; cases hu
  | slNil hu _ => rw [ht] at hu; cases hu
  | sl len hu _ _ _ _ => rw [ht] at hu; cases hu
theorem shp_intsH {P : Program} {e : TypeId} {k : IntKind} (he : P.underlying e = some (.int k)) {ts : List TypeId} : ∀ (n N : Nat) (c : List Value) (b : List (List Value)), ShpL P (List.replicate n e ++ ts) N c b → ∃ (xs : List Int) (c' : List Value), xs.length = n ∧ c = xs.map (Value.int k) ++ c' ∧ ShpL P ts N c' b
  | 0, N, c, b, h => ⟨[], c, rfl, rfl, h⟩
  | n + 1, N, c, b, h => by
    obtain ⟨x, c', rfl, _, h1⟩ := shp_int1 he (show ShpL P (e :: (List.replicate n e ++ ts)) N c b from h)
    obtain ⟨xs, c'', hl, rfl, h2⟩ := shp_intsH he n N _ _ h1
    exact ⟨x :: xs, c'', by simp [hl], rfl, h2⟩
theorem dgC_eq (xs : List Int) (h : xs.length = 32) : xs.map (Value.int .u8) = dgC (fun i => xs.getD i 0) := by
  apply List.ext_getElem?
  intro j
  have e : dgC (fun i => xs.getD i 0) = (List.range 32).map fun i => Value.int .u8 (xs.getD i 0) := rfl
  rw [e]
  by_cases hj : j < 32
  · simp [hj, h, List.getElem?_eq_getElem (show j < xs.length by omega)]
  · rw [List.getElem?_eq_none (by simp; omega), List.getElem?_eq_none (by simp; omega)]
theorem shp_slot {ts : List TypeId} {N : Nat} {c : List Value} {b : List (List Value)} (h : ShpL P (27 :: ts) N c b) : ∃ (s : Sl) (c' : List Value), c = slC s ++ c' ∧ ShpL P ts N c' b := by
  have h0 := shp_structH Go.Proofs.Try.underlying27 h
  have h0 : ShpL P (3 :: 3 :: 23 :: 3 :: 25 :: ts) N c b := h0
  obtain ⟨x1, c1, rfl, _, h1⟩ := shp_int1 (k := .i64) Go.Proofs.Try.underlying3 h0
  obtain ⟨x2, c2, rfl, _, h2⟩ := shp_int1 (k := .i64) Go.Proofs.Try.underlying3 h1
  obtain ⟨x3, c3, rfl, _, h3⟩ := shp_int1 (k := .u64) Go.Proofs.Try.underlying23 h2
  obtain ⟨x4, c4, rfl, _, h4⟩ := shp_int1 (k := .i64) Go.Proofs.Try.underlying3 h3
  have h5 := shp_arrayH Go.Proofs.Try.underlying25 h4
  obtain ⟨xs, c', hl, rfl, h6⟩ := shp_intsH (k := .u8) Go.Proofs.Try.underlying5 _ _ _ _ h5
  refine ⟨⟨x1, x2, x3, x4, fun i => xs.getD i 0⟩, c', ?_, h6⟩
  rw [dgC_eq xs hl]; rfl
theorem arg_slot {ts : List TypeId} {N : Nat} {av : List Value} {b : List (List Value)} (h : ArgS P (27 :: ts) N av b) : ∃ (s : Sl) (vs : List Value), av = agg (slC s) :: vs ∧ ArgS P ts N vs b := by
  obtain ⟨cs, vs, b1, b2, rfl, rfl, h1, h2⟩ := arg_agg h (.inl ⟨_, Go.Proofs.Try.underlying27⟩)
  obtain ⟨t, c', rfl, h3⟩ := shp_slot h1
  obtain ⟨rfl, rfl⟩ := shp_nil h3
  refine ⟨t, vs, ?_, by simpa using h2⟩
  rw [List.append_nil]
theorem uBy : P.underlying 22 = some (.slice 5) := by kernel_rfl
theorem arg_bytes {ts : List TypeId} {N : Nat} {av : List Value} {b : List (List Value)} (h : ArgS P (22 :: ts) N av b) :
    ∃ v vs b1 b2 xs, av = v :: vs ∧ b = b1 ++ b2 ∧ RdB (argG N b1) v xs ∧ (∀ x ∈ xs, 0 ≤ x ∧ x ≤ 255) ∧ ArgS P ts (N + b1.length) vs b2 := by
  obtain ⟨v, vs, b1, b2, e, eb, h1, h2⟩ := arg_one h (by rw [uBy]; simp) (by rw [uBy]; simp)
  rcases shp_sl uBy h1 with ⟨c', e1, h3⟩ | ⟨len, cells, c', bs, b', e1, eb1, hm, hl, h3, h4⟩
  · cases e1
    exact ⟨_, vs, b1, b2, [], e, eb, .inl ⟨rfl, rfl⟩, fun x hx => (by cases hx), h2⟩
  · cases e1
    obtain ⟨hb, xs, rfl, rfl, hw⟩ := shp_intsL (k := .u8) Go.Proofs.Try.underlying5 _ _ _ _ h3
    subst hb
    subst eb1
    exact ⟨_, vs, _, b2, xs, e, eb, (ArgB.rd (.inr ⟨N, 0, rfl, rfl⟩)), fun x hx => wf_u8 (hw x hx), h2⟩
end J
