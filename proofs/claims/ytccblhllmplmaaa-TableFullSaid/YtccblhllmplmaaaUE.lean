/- texts of the proof, one behind the other -/
import Derived.Test.YtccblhllmplmaaaUD
set_option linter.unusedVariables false
set_option linter.unusedSimpArgs false
set_option maxRecDepth 100000
namespace J
open Go Go.Ab
variable {xs ys bs body : List Int} {ss tt pre rest : List (List Int)} {s : List Int} {kind seq : Nat} {out : Row} {want : Nat}
theorem leV_leN : ∀ (y n : Nat), n < 256 ^ y → leV (leN y n) = n
  | 0, n, h => by
    have : n = 0 := by simpa using h
    subst this; rfl
  | y + 1, n, h => by
    have e : leN (y + 1) n = ((n % 256 : Nat) : Int) :: leN y (n / 256) := by
      unfold leN
      rw [List.range_succ_eq_map, List.map_cons, List.map_map]
      congr 1
      · simp
      · apply List.map_congr_left
        intro i _
        show ((n / 256 ^ (i + 1) % 256 : Nat) : Int) = _
        rw [Nat.div_div_eq_div_mul, Nat.pow_succ, Nat.mul_comm (256 ^ i)]
    rw [e]
    show ((n % 256 : Nat) : Int).toNat + 256 * leV (leN y (n / 256)) = n
    rw [leV_leN y (n / 256) (by rw [Nat.pow_succ] at h; omega)]
    omega
theorem chunkS_cons {b : List Int} (h : 0 < b.length) : chunkS b = padS (b.take 63) :: chunkS (b.drop 63) := by
  unfold chunkS
  have e : nCh b.length = nCh (b.drop 63).length + 1 := by rw [List.length_drop]; unfold nCh; omega
  rw [e, List.range_succ_eq_map, List.map_cons, List.map_map]
  congr 1
  apply List.map_congr_left
  intro i _
  show padS ((b.drop (63 * (i + 1))).take 63) = _
  rw [List.drop_drop, Nat.mul_add, Nat.mul_one, Nat.add_comm]
theorem padS_take {c : List Int} (h : c.length ≤ 63) : (padS c).take 63 = c ++ List.replicate (63 - c.length) 255 := by
  unfold padS
  rw [← List.append_assoc, List.take_left' (by simp; omega)]
theorem padS_last {c : List Int} (h : c.length ≤ 63) : (padS c).getD 63 1 = 0 := by
  unfold padS
  rw [← List.append_assoc, List.getD_eq_getElem?_getD, List.getElem?_append_right (by simp; omega)]
  have : 63 - (c ++ List.replicate (63 - c.length) (255 : Int)).length = 0 := by simp; omega
  rw [this]; rfl
theorem plainS_chunk : ∀ (n : Nat) (b : List Int), b.length ≤ n → ∃ k, plainS (chunkS b) = b ++ List.replicate k 255
  | 0, b, h => by
    have : b = [] := List.length_eq_zero_iff.1 (by omega)
    subst this
    exact ⟨0, rfl⟩
  | n + 1, b, h => by
    by_cases h0 : b.length = 0
    · have : b = [] := List.length_eq_zero_iff.1 h0
      subst this
      exact ⟨0, rfl⟩
    · rw [chunkS_cons (by omega)]
      show ∃ k, (padS (b.take 63)).take 63 ++ plainS (chunkS (b.drop 63)) = _
      rw [padS_take (by rw [List.length_take]; omega)]
      obtain ⟨k, hk⟩ := plainS_chunk n (b.drop 63) (by rw [List.length_drop]; omega)
      rw [hk]
      by_cases h6 : b.length < 63
      · have e1 : b.drop 63 = [] := List.drop_eq_nil_of_le (by omega)
        have e2 : b.take 63 = b := List.take_of_length_le (by omega)
        rw [e1, e2, List.nil_append]
        exact ⟨63 - b.length + k, by rw [List.append_assoc, List.replicate_append_replicate]⟩
      · refine ⟨k, ?_⟩
        rw [List.length_take, Nat.min_eq_left (by omega), Nat.sub_self, List.replicate_zero, List.append_nil, ← List.append_assoc, List.take_append_drop]
theorem fPut_eq (hl : body.length ≤ 4000) : fPut kind seq body = chunkS (sealB kind seq body) := if_neg (by omega)
theorem fPut_many (hl : body.length ≤ 4000) : (fPut kind seq body).length = (body.length + 79) / 63 := by
  rw [fPut_eq hl, chunkS_len, sealB_len]; unfold nCh; omega
theorem fSize_eq {n : Nat} (h : n ≤ 4000) : fSize n = (n + 79) / 63 := by
  unfold fSize
  rw [if_neg (by omega), Int.toNat_natCast]
theorem fPut_size : (fPut kind seq body).length = fSize body.length := by
  by_cases h : body.length ≤ 4000
  · rw [fPut_many h, fSize_eq h]
  · unfold fPut fSize
    rw [if_pos (by omega), if_pos (by omega)]; rfl
theorem fPut_head (hl : body.length ≤ 4000) : ∃ s r, fPut kind seq body = s :: r ∧ s.take 13 = 66 :: 74 :: (kind : Int) :: (leN 8 seq ++ leN 2 body.length) := by
  rw [fPut_eq hl, chunkS_cons (by rw [sealB_len]; omega)]
  refine ⟨_, _, rfl, ?_⟩
  have h1 : ((sealB kind seq body).take 63).take 13 = 66 :: 74 :: (kind : Int) :: (leN 8 seq ++ leN 2 body.length) := by
    rw [List.take_take, show min 13 63 = 13 from rfl]
    unfold sealB
    rw [List.append_assoc, List.take_left' (by simp [leN_len])]
    simp
  unfold padS
  rw [List.take_append_of_le_length (by rw [List.length_take, sealB_len]; omega)]
  exact h1
theorem head_get {n : Nat} (h : s.take 13 = 66 :: 74 :: (kind : Int) :: (leN 8 seq ++ leN 2 n)) (hk : kind < 256) (hq : seq < 2 ^ 64) (hn : n < 65536) : s.take 2 = [66, 74] ∧ hKind s = kind ∧ hSeq s = seq ∧ hLen s = n := by
  have e0 : s.take 2 = (s.take 13).take 2 := by rw [List.take_take]; rfl
  have e1 : (s.drop 2).take 1 = ((s.take 13).drop 2).take 1 := by rw [List.drop_take, List.take_take]; rfl
  have e2 : (s.drop 3).take 8 = ((s.take 13).drop 3).take 8 := by rw [List.drop_take, List.take_take]; rfl
  have e3 : (s.drop 11).take 2 = ((s.take 13).drop 11).take 2 := by rw [List.drop_take, List.take_take]; rfl
  unfold hKind hSeq hLen
  rw [e0, e1, e2, e3, h]
  refine ⟨rfl, ?_, ?_, ?_⟩
  · show ((kind : Nat) : Int).toNat + 256 * 0 = kind
    omega
  · show leV ((leN 8 seq ++ leN 2 n).take 8) = seq
    rw [List.take_left' (leN_len 8 seq)]
    exact leV_leN 8 seq hq
  · show leV (((leN 8 seq ++ leN 2 n).drop 8).take 2) = n
    rw [List.drop_left' (leN_len 8 seq), List.take_of_length_le (by rw [leN_len]; omega)]
    exact leV_leN 2 n hn
theorem sealB_mid : ∃ c, (sealB kind seq body).drop 13 = body ++ c := by
  unfold sealB
  rw [List.append_assoc, List.drop_left' (by simp [leN_len])]
  exact ⟨_, rfl⟩
theorem fGet_put (hl : body.length ≤ 4000) (hk : kind < 256) (hq : seq < 2 ^ 64) : fGet (fPut kind seq body ++ rest) = ⟨kind, seq, body, (fPut kind seq body).length⟩ := by
  obtain ⟨s, r, e, hs⟩ := fPut_head (kind := kind) (seq := seq) hl
  obtain ⟨g1, g2, g3, g4⟩ := head_get hs hk hq (by omega)
  have hlen := fPut_size (kind := kind) (seq := seq) (body := body)
  have hsz := fSize_eq hl
  have htake : (fPut kind seq body ++ rest).take (fSize body.length) = fPut kind seq body := List.take_left' hlen
  obtain ⟨c, hc⟩ := sealB_mid (kind := kind) (seq := seq) (body := body)
  obtain ⟨k, hp⟩ := plainS_chunk _ (sealB kind seq body) (Nat.le_refl _)
  have hbody : fBody (fPut kind seq body ++ rest) s = body := by
    unfold fBody
    rw [g4, htake, fPut_eq hl, hp, List.drop_append_of_le_length (by rw [sealB_len]; omega), hc, List.append_assoc, List.take_left]
  have hbad : ¬ fBad (fPut kind seq body ++ rest) s := by
    unfold fBad
    rw [g4]
    rintro (h | h | h)
    · exact h g1
    · omega
    · rw [List.length_append, hlen] at h; omega
  have hu : fPut kind seq body ++ rest = s :: (r ++ rest) := by rw [e]; rfl
  unfold fGet
  rw [hu] at hbody hbad htake ⊢
  simp only
  rw [if_neg hbad, hbody, g2, g3, g4, htake, hlen]
  rw [if_neg (fun h => h rfl)]
theorem fGet_inv (h : (fGet ss).many ≠ 0) : ∃ s r, ss = s :: r ∧ s.take 2 = [66, 74] ∧ (fGet ss).seq = hSeq s ∧ (fGet ss).many = fSize (hLen s) ∧ ∀ x ∈ ss.take (fGet ss).many, x.getD 63 1 = 0 := by
  match ss, h with
  | [], h => exact absurd rfl h
  | s :: r, h =>
    refine ⟨s, r, rfl, ?_⟩
    unfold fGet at h ⊢
    simp only at h ⊢
    by_cases hb : fBad (s :: r) s
    · rw [if_pos hb] at h; exact absurd rfl h
    rw [if_neg hb] at h ⊢
    by_cases hp : fPut (hKind s) (hSeq s) (fBody (s :: r) s) ≠ (s :: r).take (fSize (hLen s))
    · rw [if_pos hp] at h; exact absurd rfl h
    rw [if_neg hp] at h ⊢
    refine ⟨Decidable.not_not.1 fun h2 => hb (.inl h2), rfl, rfl, ?_⟩
    have hp := Classical.not_not.1 hp
    simp only
    rw [← hp]
    intro x hx
    unfold fPut at hx
    split at hx
    · cases hx
    · obtain ⟨k, _, rfl⟩ := List.mem_map.1 hx
      exact padS_last (by rw [List.length_take]; omega)
theorem fGet_head_ne (h : ∀ s r, ss = s :: r → s.take 2 ≠ [66, 74]) : (fGet ss).many = 0 := by
  by_cases h0 : (fGet ss).many = 0
  · exact h0
  · obtain ⟨s, r, e, h2, _⟩ := fGet_inv h0
    exact absurd h2 (h s r e)
theorem fGet_blank {n : Nat} : (fGet (List.replicate n blank)).many = 0 := by
  apply fGet_head_ne
  intro s r e
  have : s ∈ List.replicate n blank := by rw [e]; exact List.mem_cons_self
  rw [List.eq_of_mem_replicate this]
  decide
theorem go_fuel : ∀ (k n want : Nat) (ss : List (List Int)) (out : Row), ss.length ≤ k → ss.length < n → standsGo n want ss out = standsGo (ss.length + 1) want ss out
  | k, 0, want, ss, out, _, h => by omega
  | k, n + 1, want, ss, out, hk, h => by
    show (if stStop want (fGet ss) out then out else _) = (if stStop want (fGet ss) out then out else _)
    by_cases hs : stStop want (fGet ss) out
    · rw [if_pos hs, if_pos hs]
    · rw [if_neg hs, if_neg hs]
      have hm : (fGet ss).many ≠ 0 := fun h0 => hs (.inl h0)
      have hle := fGet_many hm
      have hd : (ss.drop (fGet ss).many).length < ss.length := by rw [List.length_drop]; omega
      match k, hk with
      | 0, hk => omega
      | k + 1, hk =>
        rw [go_fuel k n 2 _ _ (by omega) (by omega), go_fuel k ss.length 2 _ _ (by omega) (by omega)]
noncomputable def goS (want : Nat) (ss : List (List Int)) (out : Row) : Row := standsGo (ss.length + 1) want ss out
theorem goS_eq : goS want ss out = if stStop want (fGet ss) out then out else goS 2 (ss.drop (fGet ss).many) (stNext want (fGet ss) out) := by
  show (if stStop want (fGet ss) out then out else _) = _
  by_cases hs : stStop want (fGet ss) out
  · rw [if_pos hs, if_pos hs]
  · rw [if_neg hs, if_neg hs]
    have hm : (fGet ss).many ≠ 0 := fun h0 => hs (.inl h0)
    have hle := fGet_many hm
    exact go_fuel _ _ _ _ _ (Nat.le_refl _) (by rw [List.length_drop]; omega)
theorem fStands_goS : fStands ss = goS 1 ss row0 := rfl
theorem goS_stop (h : stStop want (fGet ss) out) : goS want ss out = out := by rw [goS_eq, if_pos h]
theorem goS_blank {n : Nat} : goS want (List.replicate n blank) out = out := goS_stop (.inl fGet_blank)
theorem goS_first : ∀ (k : Nat) (ss : List (List Int)) (out : Row), ss.length ≤ k → (goS 2 ss out).first = out.first ∧ ∃ l, (goS 2 ss out).bodies = out.bodies ++ l
  | k, ss, out, hk => by
    rw [goS_eq]
    by_cases hs : stStop 2 (fGet ss) out
    · rw [if_pos hs]; exact ⟨rfl, [], by simp⟩
    · rw [if_neg hs]
      have hm : (fGet ss).many ≠ 0 := fun h0 => hs (.inl h0)
      have hle := fGet_many hm
      match k, hk with
      | 0, hk => omega
      | k + 1, hk =>
        obtain ⟨h1, l, h2⟩ := goS_first k (ss.drop (fGet ss).many) (stNext 2 (fGet ss) out) (by rw [List.length_drop]; omega)
        refine ⟨h1, [(fGet ss).body] ++ l, ?_⟩
        rw [h2]
        show (out.bodies ++ [_]) ++ l = _
        simp
theorem stands_cases : (fStands ss).bodies = [] ∨ ((fGet ss).many ≠ 0 ∧ (fStands ss).first = (fGet ss).seq) := by
  rw [fStands_goS, goS_eq]
  by_cases hs : stStop 1 (fGet ss) row0
  · rw [if_pos hs]; exact .inl rfl
  · rw [if_neg hs]
    have hm : (fGet ss).many ≠ 0 := fun h0 => hs (.inl h0)
    obtain ⟨h1, _⟩ := goS_first _ (ss.drop (fGet ss).many) (stNext 1 (fGet ss) row0) (Nat.le_refl _)
    exact .inr ⟨hm, h1⟩
theorem stands_none (h : (fGet ss).many = 0) : fStands ss = row0 := by rw [fStands_goS]; exact goS_stop (.inl h)
def Pre (pre : List (List Int)) (r : Row) : Prop := ∀ rest, fStands (pre ++ rest) = goS 2 rest r
theorem pre_base (hl : body.length ≤ 4000) (hq : seq < 2 ^ 64) : Pre (fPut 1 seq body) ⟨[body], seq, seq⟩ := by
  intro rest
  have hg := fGet_put (kind := 1) (seq := seq) (rest := rest) hl (by omega) hq
  have hp : (fPut 1 seq body).length ≠ 0 := by rw [fPut_many hl]; omega
  rw [fStands_goS, goS_eq, hg]
  rw [if_neg (by rintro (h | h | h); exact hp h; exact h rfl; cases h.1)]
  show goS 2 ((fPut 1 seq body ++ rest).drop _) _ = _
  rw [List.drop_left]; rfl
theorem pre_next {r : Row} (h : Pre pre r) (hl : body.length ≤ 4000) (hq : r.last + 1 < 2 ^ 64) : Pre (pre ++ fPut 2 (r.last + 1) body) ⟨r.bodies ++ [body], r.first, r.last + 1⟩ := by
  intro rest
  have hg := fGet_put (kind := 2) (seq := r.last + 1) (rest := rest) hl (by omega) hq
  have hp : (fPut 2 (r.last + 1) body).length ≠ 0 := by rw [fPut_many hl]; omega
  rw [List.append_assoc, h, goS_eq, hg]
  rw [if_neg (by rintro (h | h | h); exact hp h; exact h rfl; rcases h.2 with h | h; exact absurd h (by show ¬ r.last + 1 = 0; omega); exact h (by show r.last + 1 - 1 = r.last; omega))]
  show goS 2 ((fPut 2 (r.last + 1) body ++ rest).drop _) _ = _
  rw [List.drop_left]; rfl
theorem Pre.stands {r : Row} {n : Nat} (h : Pre pre r) : fStands (pre ++ List.replicate n blank) = r := by rw [h]; exact goS_blank
theorem Pre.stop {r : Row} (h : Pre pre r) (hs : (fGet rest).many = 0) : fStands (pre ++ rest) = r := by rw [h]; exact goS_stop (.inl hs)
end J
set_option linter.unusedVariables false
set_option linter.unusedSimpArgs false
set_option maxRecDepth 100000
namespace J
open Go Go.Ab
variable {d d' : Dv} {m : Mp} {s : List Int} {l : List (List Int)} {i : Nat}
def kp (d : Dv) (i : Nat) : List Int := (d.cells.getD i zCell).kept
def sn (d : Dv) (i : Nat) : List Int := (d.cells.getD i zCell).seen
def wr (d : Dv) (i : Nat) : Int := (d.cells.getD i zCell).wear
def keys (l : List (Nat × List Int)) : List Nat := l.map (·.1)
theorem keys_mem {l : List (Nat × List Int)} {x : Nat × List Int} (h : x ∈ l) : x.1 ∈ keys l := List.mem_map.2 ⟨x, h, rfl⟩
theorem keys_app {a b : List (Nat × List Int)} : keys (a ++ b) = keys a ++ keys b := List.map_append
theorem keys_uniq {l : List (Nat × List Int)} (h : (keys l).Nodup) {i : Nat} {a b : List Int} (ha : (i, a) ∈ l) (hb : (i, b) ∈ l) : a = b := by
  induction l with
  | nil => cases ha
  | cons x r ih =>
    have h' : x.1 ∉ keys r ∧ (keys r).Nodup := List.nodup_cons.1 h
    rcases List.mem_cons.1 ha with ea | ha2
    · rcases List.mem_cons.1 hb with eb | hb2
      · rw [← ea] at eb; cases eb; rfl
      · rw [← ea] at h'; exact absurd (keys_mem hb2) h'.1
    · rcases List.mem_cons.1 hb with eb | hb2
      · rw [← eb] at h'; exact absurd (keys_mem ha2) h'.1
      · exact ih h'.2 ha2 hb2
structure Wt (d : Dv) : Prop where
  nd : (keys d.done).Nodup
  lt : ∀ x ∈ d.done, x.1 < d.cells.length
  p : ∀ i w, (i, w) ∈ d.done → sn d i = w
  n : ∀ i, i ∉ keys d.done → sn d i = kp d i
theorem getD_set {l : List Cell} {i j : Nat} {c : Cell} (h : i < l.length) : (l.set i c).getD j zCell = if i = j then c else l.getD j zCell := by
  rw [List.getD_eq_getElem?_getD, List.getElem?_set, List.getD_eq_getElem?_getD]
  by_cases e : i = j
  · subst e; rw [if_pos rfl, if_pos h, if_pos rfl]; rfl
  · rw [if_neg e, if_neg e]
structure Same (d d' : Dv) : Prop where
  c : d'.cells = d.cells
  w : d'.done = d.done
  m : d'.most = d.most
theorem Same.kp (h : Same d d') : kp d' i = kp d i := by unfold J.kp; rw [h.c]
theorem Same.sn (h : Same d d') : sn d' i = sn d i := by unfold J.sn; rw [h.c]
theorem Same.wr (h : Same d d') : wr d' i = wr d i := by unfold J.wr; rw [h.c]
theorem Same.wt (h : Same d d') (hw : Wt d) : Wt d' := ⟨by rw [h.w]; exact hw.nd, by rw [h.w, h.c]; exact hw.lt, by rw [h.w]; intro i w hi; rw [h.sn]; exact hw.p i w hi, by rw [h.w]; intro i hi; rw [h.sn, h.kp]; exact hw.n i hi⟩
theorem step_same : Same d d.step := ⟨rfl, rfl, rfl⟩
theorem step_dn (h : d.step.down = true) (hd : d.down = false) : d.budget = 0 := by
  have h : (d.down || decide (d.budget = 0)) = true := h
  rw [hd] at h
  simpa using h
theorem step_bud (h : d.budget < 0) : d.step.budget = d.budget := if_neg (by omega)
structure Put1 (d : Dv) (i : Nat) (s : List Int) (d' : Dv) : Prop where
  len : d'.cells.length = d.cells.length
  m : d'.most = d.most
  w : d'.done = d.done ++ [(i, s)]
  k : ∀ j, kp d' j = kp d j
  s : ∀ j, sn d' j = if i = j then s else sn d j
  up : d'.down = false
  bud : d.budget < 0 → d'.budget = d.budget
theorem Put1.wt (h : Put1 d i s d') (hw : Wt d) (hi : i < d.cells.length) (hn : i ∉ keys d.done) : Wt d' := by
  refine ⟨?_, ?_, ?_, ?_⟩
  · rw [h.w, keys_app, List.nodup_append]
    refine ⟨hw.nd, by simp [keys], fun a ha b hb => ?_⟩
    have : b = i := by simpa [keys] using hb
    subst this
    intro e; subst e; exact hn ha
  · rw [h.w, h.len]
    intro x hx
    rcases List.mem_append.1 hx with hx | hx
    · exact hw.lt x hx
    · have : x = (i, s) := by simpa using hx
      subst this; exact hi
  · rw [h.w]
    intro j w hj
    rw [h.s]
    rcases List.mem_append.1 hj with hj | hj
    · rw [if_neg (fun e : i = j => hn (by rw [e]; exact keys_mem hj))]; exact hw.p j w hj
    · have : (j, w) = (i, s) := by simpa using hj
      cases this; rw [if_pos rfl]
  · rw [h.w]
    intro j hj
    rw [keys_app, List.mem_append, not_or] at hj
    rw [h.s, h.k, if_neg (fun e => hj.2 (by subst e; simp [keys]))]; exact hw.n j hj.1
theorem put_one (hi : i < d.cells.length) (hu : d.down = false) (s : List Int) {d0 : Dv} (h0 : ∀ j, kp d j = kp d0 j) (h1 : ∀ j, sn d j = sn d0 j) (h2 : d.done = d0.done) (h3 : d.most = d0.most) (h4 : d.cells.length = d0.cells.length) (h5 : d0.budget < 0 → d.budget = d0.budget) : Put1 d0 i s (d.put (i : Int) s) := by
  have hd : d.cell (i : Int) = d.cells.getD i zCell := by unfold Dv.cell; rw [Int.toNat_natCast]
  refine ⟨?_, h3, ?_, fun j => ?_, fun j => ?_, hu, h5⟩
  · show (d.cells.set _ _).length = _; rw [List.length_set, h4]
  · show d.done ++ [((i : Int).toNat, s)] = _; rw [h2, Int.toNat_natCast]
  · rw [← h0]; unfold kp
    show ((d.cells.set (i : Int).toNat _).getD j zCell).kept = _
    rw [Int.toNat_natCast, getD_set hi]
    by_cases e : i = j
    · subst e; rw [if_pos rfl, hd]
    · rw [if_neg e]
  · rw [← h1]; unfold sn
    show ((d.cells.set (i : Int).toNat _).getD j zCell).seen = _
    rw [Int.toNat_natCast, getD_set hi]
    by_cases e : i = j
    · subst e; rw [if_pos rfl, if_pos rfl]
    · rw [if_neg e, if_neg e]
theorem has_nat (hi : i < d.cells.length) : d.has (i : Int) := ⟨by omega, by omega⟩
structure Out (d d' : Dv) : Prop where
  s : Same d d'
  dn : d'.down = true
  b : 0 ≤ d.budget
theorem erase_cases (hi : i < d.cells.length) (hu : d.down = false) (hw : wr d i < d.most) :
    ((d.erase i).2 = 62 ∧ Out d (d.erase i).1) ∨ ((d.erase i).2 = 0 ∧ Put1 d i blank (d.erase i).1 ∧ ∀ j, wr (d.erase i).1 j = if i = j then wr d i + 1 else wr d j) := by
  have hc : d.cell (i : Int) = d.cells.getD i zCell := by unfold Dv.cell; rw [Int.toNat_natCast]
  unfold Dv.erase
  rw [if_neg (fun h => h (has_nat hi)), if_neg (by rw [hu]; simp), if_neg (by rw [hc]; show ¬ d.most ≤ wr d i; omega)]
  by_cases h : d.step.down = true
  · rw [if_pos h]
    have hb := step_dn h hu
    exact .inl ⟨rfl, step_same, h, by omega⟩
  · rw [if_neg h]
    have h := Bool.eq_false_iff.2 h
    refine .inr ⟨rfl, ?_, fun j => ?_⟩
    · have hl : (d.step.upd (i : Int) { d.cell i with wear := (d.cell i).wear + 1 }).cells.length = d.cells.length := by show (d.cells.set _ _).length = _; rw [List.length_set]
      refine put_one (d := d.step.upd (i : Int) { d.cell i with wear := (d.cell i).wear + 1 }) (d0 := d) (by rw [hl]; exact hi) h blank (fun j => ?_) (fun j => ?_) rfl rfl hl (fun hb => step_bud hb)
      · unfold kp
        show ((d.cells.set (i : Int).toNat _).getD j zCell).kept = _
        rw [Int.toNat_natCast, getD_set hi]
        by_cases e : i = j
        · subst e; rw [if_pos rfl, hc]
        · rw [if_neg e]
      · unfold sn
        show ((d.cells.set (i : Int).toNat _).getD j zCell).seen = _
        rw [Int.toNat_natCast, getD_set hi]
        by_cases e : i = j
        · subst e; rw [if_pos rfl, hc]
        · rw [if_neg e]
    · unfold wr
      show (((d.cells.set (i : Int).toNat _).set (i : Int).toNat _).getD j zCell).wear = _
      rw [Int.toNat_natCast, getD_set (by rw [List.length_set]; exact hi)]
      by_cases e : i = j
      · subst e
        rw [if_pos rfl, if_pos rfl]
        show (((d.cells.set (i : Int).toNat _).getD (i : Int).toNat zCell)).wear = _
        rw [Int.toNat_natCast, getD_set hi, if_pos rfl, hc]
      · rw [if_neg e, if_neg e, getD_set hi, if_neg e]
theorem erase_down (hi : i < d.cells.length) (hu : d.down = true) : d.erase i = (d, 62) := by
  unfold Dv.erase
  rw [if_neg (fun h => h (has_nat hi)), if_pos hu]
theorem program_cases (hi : i < d.cells.length) (hu : d.down = false) (hb : sn d i = blank) :
    ((d.program i s).2 = 62 ∧ Out d (d.program i s).1) ∨ ((d.program i s).2 = 0 ∧ Put1 d i s (d.program i s).1 ∧ ∀ j, wr (d.program i s).1 j = wr d j) := by
  have hc : d.cell (i : Int) = d.cells.getD i zCell := by unfold Dv.cell; rw [Int.toNat_natCast]
  unfold Dv.program
  rw [if_neg (fun h => h (has_nat hi)), if_neg (by rw [hu]; simp), if_neg (by rw [hc]; show ¬ sn d i ≠ blank; rw [hb]; simp)]
  by_cases h : d.step.down = true
  · rw [if_pos h]
    have hb := step_dn h hu
    exact .inl ⟨rfl, step_same, h, by omega⟩
  · rw [if_neg h]
    have h := Bool.eq_false_iff.2 h
    refine .inr ⟨rfl, ?_, fun j => ?_⟩
    · exact put_one (d := d.step) (d0 := d) hi h s (fun j => rfl) (fun j => rfl) rfl rfl rfl (fun hb => step_bud hb)
    · unfold wr
      show ((d.cells.set (i : Int).toNat _).getD j zCell).wear = _
      rw [Int.toNat_natCast, getD_set hi]
      by_cases e : i = j
      · subst e
        rw [if_pos rfl]
        show ((d.step.cell (i : Int))).wear = _
        rw [show d.step.cell (i : Int) = d.cells.getD i zCell from hc]
      · rw [if_neg e]
theorem keepAll_get : ∀ (l : List (Nat × List Int)) (cs : List Cell), (keys l).Nodup → (∀ x ∈ l, x.1 < cs.length) → ∀ j, ((keepAll cs l).getD j zCell).seen = (cs.getD j zCell).seen ∧ ((keepAll cs l).getD j zCell).wear = (cs.getD j zCell).wear ∧ (j ∉ keys l → ((keepAll cs l).getD j zCell).kept = (cs.getD j zCell).kept) ∧ ∀ w, (j, w) ∈ l → ((keepAll cs l).getD j zCell).kept = w
  | [], cs, _, _, j => ⟨rfl, rfl, fun _ => rfl, fun w h => by cases h⟩
  | x :: r, cs, hn, hl, j => by
    have hn : x.1 ∉ keys r ∧ (keys r).Nodup := List.nodup_cons.1 hn
    have hx := hl x List.mem_cons_self
    have hg : ∀ j, (keep1 cs x).getD j zCell = if x.1 = j then { cs.getD x.1 zCell with kept := x.2 } else cs.getD j zCell := fun j => getD_set hx
    obtain ⟨i1, i2, i3, i4⟩ := keepAll_get r (keep1 cs x) hn.2 (fun y hy => by show y.1 < (cs.set _ _).length; rw [List.length_set]; exact hl y (List.mem_cons_of_mem _ hy)) j
    show ((keepAll (keep1 cs x) r).getD j zCell).seen = _ ∧ ((keepAll (keep1 cs x) r).getD j zCell).wear = _ ∧ (_ → ((keepAll (keep1 cs x) r).getD j zCell).kept = _) ∧ ∀ w, _ → ((keepAll (keep1 cs x) r).getD j zCell).kept = w
    rw [i1, i2, hg]
    refine ⟨by split; rename_i e; subst e; rfl; rfl, by split; rename_i e; subst e; rfl; rfl, fun hj => ?_, fun w hw => ?_⟩
    · have hj : j ∉ x.1 :: keys r := hj
      rw [List.mem_cons, not_or] at hj
      rw [i3 hj.2, hg, if_neg (Ne.symm hj.1)]
    · rcases List.mem_cons.1 hw with hw | hw
      · subst hw
        rw [i3 hn.1, hg, if_pos rfl]
      · exact i4 w hw
structure Kept (d d' : Dv) : Prop where
  len : d'.cells.length = d.cells.length
  m : d'.most = d.most
  w : d'.done = []
  k : ∀ j, kp d' j = sn d j
  s : ∀ j, sn d' j = sn d j
  wr : ∀ j, wr d' j = wr d j
  up : d'.down = false
  bud : d.budget < 0 → d'.budget = d.budget
theorem Kept.wt (h : Kept d d') : Wt d' := ⟨by rw [h.w]; simp [keys], (by rw [h.w]; intro x hx; cases hx), (by rw [h.w]; intro i w hi; cases hi), fun i _ => by rw [h.s, h.k]⟩
theorem sync_cases (hu : d.down = false) (hw : Wt d) : (d.sync.2 = 62 ∧ Out d d.sync.1) ∨ (d.sync.2 = 0 ∧ Kept d d.sync.1) := by
  unfold Dv.sync
  rw [if_neg (by rw [hu]; simp)]
  by_cases h : d.step.down = true
  · rw [if_pos h]
    have hb := step_dn h hu
    exact .inl ⟨rfl, step_same, h, by omega⟩
  · rw [if_neg h]
    have h := Bool.eq_false_iff.2 h
    have hg := keepAll_get d.done d.cells hw.nd hw.lt
    refine .inr ⟨rfl, by show (keepAll _ _).length = _; rw [keepAll_len], rfl, rfl, fun j => ?_, fun j => (hg j).1, fun j => (hg j).2.1, h, fun hb => step_bud hb⟩
    show ((keepAll _ _).getD j zCell).kept = _
    by_cases hj : j ∈ keys d.done
    · obtain ⟨x, hx, rfl⟩ := List.mem_map.1 hj
      rw [(hg x.1).2.2.2 x.2 hx, hw.p x.1 x.2 hx]
    · rw [(hg j).2.2.1 hj, hw.n j hj]; rfl
theorem sync_down (hu : d.down = true) : d.sync = (d, 62) := by unfold Dv.sync; rw [if_pos hu]
def Torn (old new got : List Int) : Prop := ∃ n, n ≤ 64 ∧ got = new.take n ++ old.drop n
theorem tearAll_get : ∀ (l : List ((Nat × List Int) × Int)) (cs : List Cell), (keys (l.map (·.1))).Nodup → (∀ x ∈ l, x.1.1 < cs.length) → ∀ j, ((tearAll cs l).getD j zCell).seen = (cs.getD j zCell).seen ∧ ((tearAll cs l).getD j zCell).wear = (cs.getD j zCell).wear ∧ (j ∉ keys (l.map (·.1)) → ((tearAll cs l).getD j zCell).kept = (cs.getD j zCell).kept) ∧ ∀ w, (j, w) ∈ l.map (·.1) → Torn (cs.getD j zCell).kept w ((tearAll cs l).getD j zCell).kept
  | [], cs, _, _, j => ⟨rfl, rfl, fun _ => rfl, fun w h => by cases h⟩
  | x :: r, cs, hn, hl, j => by
    have hn : x.1.1 ∉ keys (r.map (·.1)) ∧ (keys (r.map (·.1))).Nodup := List.nodup_cons.1 hn
    have hx := hl x List.mem_cons_self
    have hg : ∀ j, (tear1 cs x.1 x.2).getD j zCell = if x.1.1 = j then { cs.getD x.1.1 zCell with kept := x.1.2.take (min x.2.toNat 64) ++ (cs.getD x.1.1 zCell).kept.drop (min x.2.toNat 64) } else cs.getD j zCell := fun j => getD_set hx
    obtain ⟨i1, i2, i3, i4⟩ := tearAll_get r (tear1 cs x.1 x.2) hn.2 (fun y hy => by rw [tear1_len]; exact hl y (List.mem_cons_of_mem _ hy)) j
    show ((tearAll (tear1 cs x.1 x.2) r).getD j zCell).seen = _ ∧ ((tearAll (tear1 cs x.1 x.2) r).getD j zCell).wear = _ ∧ (_ → ((tearAll (tear1 cs x.1 x.2) r).getD j zCell).kept = _) ∧ ∀ w, _ → Torn _ w ((tearAll (tear1 cs x.1 x.2) r).getD j zCell).kept
    rw [i1, i2, hg]
    refine ⟨by split; rename_i e; subst e; rfl; rfl, by split; rename_i e; subst e; rfl; rfl, fun hj => ?_, fun w hw => ?_⟩
    · have hj : j ∉ x.1.1 :: keys (r.map (·.1)) := hj
      rw [List.mem_cons, not_or] at hj
      rw [i3 hj.2, hg, if_neg (Ne.symm hj.1)]
    · have hw : (j, w) ∈ x.1 :: r.map (·.1) := hw
      rcases List.mem_cons.1 hw with hw | hw
      · have e1 : x.1.1 = j := by rw [← hw]
        have e2 : x.1.2 = w := by rw [← hw]
        subst e1; subst e2
        rw [i3 hn.1, hg, if_pos rfl]
        exact ⟨min x.2.toNat 64, by omega, rfl⟩
      · have hne : x.1.1 ≠ j := fun e => hn.1 (by rw [e]; exact keys_mem hw)
        have := i4 w hw
        rw [hg, if_neg hne] at this
        exact this
theorem seeAll_get : ∀ (l : List (Nat × List Int)) (cs : List Cell), (∀ x ∈ l, x.1 < cs.length) → ∀ j, ((seeAll cs l).getD j zCell).kept = (cs.getD j zCell).kept ∧ ((seeAll cs l).getD j zCell).wear = (cs.getD j zCell).wear ∧ (j ∉ keys l → ((seeAll cs l).getD j zCell).seen = (cs.getD j zCell).seen) ∧ (j ∈ keys l → ((seeAll cs l).getD j zCell).seen = (cs.getD j zCell).kept)
  | [], cs, _, j => ⟨rfl, rfl, fun _ => rfl, fun h => by cases h⟩
  | x :: r, cs, hl, j => by
    have hx := hl x List.mem_cons_self
    have hg : ∀ j, (see1 cs x).getD j zCell = if x.1 = j then { cs.getD x.1 zCell with seen := (cs.getD x.1 zCell).kept } else cs.getD j zCell := fun j => getD_set hx
    obtain ⟨i1, i2, i3, i4⟩ := seeAll_get r (see1 cs x) (fun y hy => by rw [see1_len]; exact hl y (List.mem_cons_of_mem _ hy)) j
    have hk : ((see1 cs x).getD j zCell).kept = (cs.getD j zCell).kept := by rw [hg]; split; rename_i e; subst e; rfl; rfl
    have hw : ((see1 cs x).getD j zCell).wear = (cs.getD j zCell).wear := by rw [hg]; split; rename_i e; subst e; rfl; rfl
    show ((seeAll (see1 cs x) r).getD j zCell).kept = _ ∧ ((seeAll (see1 cs x) r).getD j zCell).wear = _ ∧ (_ → ((seeAll (see1 cs x) r).getD j zCell).seen = _) ∧ (_ → ((seeAll (see1 cs x) r).getD j zCell).seen = _)
    rw [i1, i2, hk, hw]
    refine ⟨rfl, rfl, fun hj => ?_, fun hj => ?_⟩
    · have hj : j ∉ x.1 :: keys r := hj
      rw [List.mem_cons, not_or] at hj
      rw [i3 hj.2, hg, if_neg (Ne.symm hj.1)]
    · by_cases hr : j ∈ keys r
      · rw [i4 hr, hk]
      · have hj : j ∈ x.1 :: keys r := hj
        rcases List.mem_cons.1 hj with hj | hj
        · rw [i3 hr, hg, if_pos hj.symm]
          subst hj; rfl
        · exact absurd hj hr
structure Anew (d d' : Dv) : Prop where
  len : d'.cells.length = d.cells.length
  m : d'.most = d.most
  w : d'.done = []
  s : ∀ j, sn d' j = kp d' j
  n : ∀ j, j ∉ keys d.done → kp d' j = kp d j
  t : ∀ j w, (j, w) ∈ d.done → Torn (kp d j) w (kp d' j)
  wr : ∀ j, wr d' j = wr d j
  up : d'.down = false
  bud : d'.budget = -1
theorem Anew.wt (h : Anew d d') : Wt d' := ⟨by rw [h.w]; simp [keys], (by rw [h.w]; intro x hx; cases hx), (by rw [h.w]; intro i w hi; cases hi), fun i _ => h.s i⟩
theorem zip_nodup {l : List (Nat × List Int)} : ∀ (ks : List Int), (keys l).Nodup → (keys ((l.zip ks).map (·.1))).Nodup := by
  induction l with
  | nil => intro ks _; simp [keys]
  | cons x r ih =>
    intro ks h
    match ks with
    | [] => simp [keys]
    | k :: ks =>
      have h : x.1 ∉ keys r ∧ (keys r).Nodup := List.nodup_cons.1 h
      refine List.nodup_cons.2 ⟨fun hx => h.1 ?_, ih ks h.2⟩
      obtain ⟨y, hy, e⟩ := List.mem_map.1 hx
      obtain ⟨z, hz, rfl⟩ := List.mem_map.1 hy
      have e : z.1.1 = x.1 := e
      show x.1 ∈ keys r
      rw [← e]
      exact keys_mem (List.of_mem_zip hz).1
theorem restart_anew (hw : Wt d) (hk : ∀ j, (kp d j).length = 64) (ks : List Int) : Anew d (d.restart ks) := by
  have hz : ∀ x ∈ d.done.zip ks, x.1.1 < d.cells.length := fun x hx => hw.lt x.1 (List.of_mem_zip hx).1
  have hn := zip_nodup ks hw.nd
  have g1 := tearAll_get (d.done.zip ks) d.cells hn hz
  have g2 := seeAll_get d.done (tearAll d.cells (d.done.zip ks)) (fun x hx => by rw [tearAll_len]; exact hw.lt x hx)
  have hkp : ∀ j, kp (d.restart ks) j = ((tearAll d.cells (d.done.zip ks)).getD j zCell).kept := fun j => (g2 j).1
  have hsub : ∀ y, y ∈ (d.done.zip ks).map (·.1) → y ∈ d.done := fun y hy => by
    obtain ⟨z, hz, rfl⟩ := List.mem_map.1 hy
    exact (List.of_mem_zip hz).1
  refine ⟨?_, rfl, rfl, fun j => ?_, fun j hj => ?_, fun j w hj => ?_, fun j => ?_, rfl, rfl⟩
  · show (seeAll _ _).length = _; rw [seeAll_len, tearAll_len]
  · rw [hkp]
    show ((seeAll _ _).getD j zCell).seen = _
    by_cases hj : j ∈ keys d.done
    · rw [(g2 j).2.2.2 hj]
    · rw [(g2 j).2.2.1 hj, (g1 j).1, (g1 j).2.2.1 (fun h => hj (by
        obtain ⟨y, hy, e⟩ := List.mem_map.1 h
        rw [← e]; exact keys_mem (hsub y hy)))]
      exact hw.n j hj
  · rw [hkp, (g1 j).2.2.1 (fun h => hj (by
      obtain ⟨y, hy, e⟩ := List.mem_map.1 h
      rw [← e]; exact keys_mem (hsub y hy)))]; rfl
  · rw [hkp]
    by_cases hj2 : j ∈ keys ((d.done.zip ks).map (·.1))
    · obtain ⟨y, hy, e⟩ := List.mem_map.1 hj2
      have e2 : y.2 = w := keys_uniq hw.nd (i := j) (by rw [← e]; exact hsub y hy) hj
      exact (g1 j).2.2.2 w (by rw [← e, ← e2]; exact hy)
    · rw [(g1 j).2.2.1 hj2]
      exact ⟨0, by omega, by simp; rfl⟩
  · show ((seeAll _ _).getD j zCell).wear = _
    rw [(g2 j).2.1, (g1 j).2.1]; rfl
end J
set_option linter.unusedVariables false
set_option linter.unusedSimpArgs false
set_option maxRecDepth 100000
namespace J
open Go Go.Ab
variable {d d' d0 : Dv} {m m' : Mp} {s : List Int} {l : List (List Int)} {i j : Nat} {A B : Nat} {b : Int} {N : Nat}
def off (A : Nat) (b : Int) : Nat := if b = 0 then 0 else A
def siz (A B : Nat) (b : Int) : Nat := if b = 0 then A else B
structure Two (m : Mp) (A B : Nat) : Prop where
  sp : ∃ r, m.spans = (0, A) :: (A, B) :: r
  fit : A + B ≤ m.d.cells.length
abbrev Bit (b : Int) : Prop := b = 0 ∨ b = 1
theorem two_has (h : Two m A B) (hb : Bit b) : m.has b ∧ m.span b = (off A b, siz A B b) := by
  obtain ⟨r, e⟩ := h.sp
  unfold Mp.has Mp.span
  rw [e]
  rcases hb with rfl | rfl
  · exact ⟨⟨by omega, by simp; omega⟩, rfl⟩
  · exact ⟨⟨by omega, by simp; omega⟩, rfl⟩
theorem two_size (h : Two m A B) (hb : Bit b) : m.size b = siz A B b := by
  unfold Mp.size
  rw [if_pos (two_has h hb).1, (two_has h hb).2]
theorem two_fit (h : Two m A B) (hb : Bit b) {y : Nat} (hy : y < siz A B b) : off A b + y < m.d.cells.length := by
  have := h.fit
  rcases hb with rfl | rfl
  · have : siz A B 0 = A := rfl
    have : off A 0 = 0 := rfl
    omega
  · have : siz A B 1 = B := rfl
    have : off A 1 = A := rfl
    omega
theorem two_place (h : Two m A B) (hb : Bit b) {y : Nat} (hy : y < siz A B b) : m.place b y = (((off A b + y : Nat) : Int), 0) := by
  unfold Mp.place
  rw [if_neg (fun h2 => h2 (two_has h hb).1), (two_has h hb).2, if_neg (by show ¬ ((y : Int) < 0 ∨ (siz A B b : Int) ≤ y); omega)]
  show ((((off A b : Nat) : Int) + (y : Int)), (0 : Int)) = _
  rw [show ((off A b : Nat) : Int) + (y : Int) = ((off A b + y : Nat) : Int) by omega]
theorem read_sn (hj : j < d.cells.length) : (d.read (j : Int)).1 = sn d j := by
  unfold Dv.read
  rw [if_pos (has_nat hj)]
  show (d.cell (j : Int)).seen = _
  unfold Dv.cell sn
  rw [Int.toNat_natCast]
theorem two_read (h : Two m A B) (hb : Bit b) {y : Nat} (hy : y < siz A B b) : (m.read b y).1 = sn m.d (off A b + y) := by
  unfold Mp.read
  rw [two_place h hb hy, if_neg (by simp)]
  exact read_sn (two_fit h hb hy)
def bk (d : Dv) (A B : Nat) (b : Int) : List (List Int) := (List.range (siz A B b)).map fun y => kp d (off A b + y)
theorem bk_len : (bk d A B b).length = siz A B b := by simp [bk]
theorem bk_get {y : Nat} (h : y < (bk d A B b).length) : (bk d A B b)[y] = kp d (off A b + y) := by simp [bk]
theorem two_secs (h : Two m A B) (hb : Bit b) (hs : ∀ j, sn m.d j = kp m.d j) : m.secs b = bk m.d A B b := by
  unfold Mp.secs bk
  rw [two_size h hb]
  apply List.map_congr_left
  intro y hy
  have hy := List.mem_range.1 hy
  rw [two_read h hb hy, hs]
theorem two_of (h : Two m A B) (h1 : m'.spans = m.spans) (h2 : m'.d.cells.length = m.d.cells.length) : Two m' A B := ⟨by rw [h1]; exact h.sp, by rw [h2]; exact h.fit⟩
def OpsB (b : Int) (l : List Op) : Prop := ∀ o ∈ l, o.part = b
theorem note_opsB {o : Op} {e : Int} (ho : o.part = b) (h : OpsB b m.ops) : OpsB b (m.note o e).ops := by
  unfold Mp.note
  split
  · intro x hx
    rcases List.mem_append.1 hx with hx | hx
    · exact h x hx
    · have : x = { o with who := m.who } := by simpa using hx
      subst this; exact ho
  · exact h
theorem two_erase (h : Two m A B) (hb : Bit b) {y : Nat} (hy : y < siz A B b) : (m.erase b y).1.d = (m.d.erase ((off A b + y : Nat) : Int)).1 ∧ (m.erase b y).2 = (m.d.erase ((off A b + y : Nat) : Int)).2 ∧ (m.erase b y).1.spans = m.spans ∧ (OpsB b m.ops → OpsB b (m.erase b y).1.ops) := by
  unfold Mp.erase
  rw [two_place h hb hy, if_neg (by simp)]
  exact ⟨Mp.note_d, rfl, Mp.note_s, fun h => note_opsB rfl h⟩
theorem two_program (h : Two m A B) (hb : Bit b) {y : Nat} (hy : y < siz A B b) : (m.program b y s).1.d = (m.d.program ((off A b + y : Nat) : Int) s).1 ∧ (m.program b y s).2 = (m.d.program ((off A b + y : Nat) : Int) s).2 ∧ (m.program b y s).1.spans = m.spans ∧ (OpsB b m.ops → OpsB b (m.program b y s).1.ops) := by
  unfold Mp.program
  rw [two_place h hb hy, if_neg (by simp)]
  exact ⟨Mp.note_d, rfl, Mp.note_s, fun h => note_opsB rfl h⟩
structure Wip (d0 d : Dv) (lo hi : Nat) : Prop where
  len : d.cells.length = d0.cells.length
  m : d.most = d0.most
  wt : Wt d
  k : ∀ j, kp d j = kp d0 j
  ks : ∀ x ∈ d.done, lo ≤ x.1 ∧ x.1 < hi ∧ x.2 = blank
  w1 : ∀ j, wr d j ≤ wr d0 j + 1
  w2 : ∀ j, j ∉ keys d.done → wr d j ≤ wr d0 j
  bud : d0.budget < 0 → d.budget = d0.budget
theorem Wip.wide {lo hi hi' : Nat} (h : Wip d0 d lo hi) (hh : hi ≤ hi') : Wip d0 d lo hi' := ⟨h.len, h.m, h.wt, h.k, fun x hx => ⟨(h.ks x hx).1, Nat.lt_of_lt_of_le (h.ks x hx).2.1 hh, (h.ks x hx).2.2⟩, h.w1, h.w2, h.bud⟩
theorem Wip.out {lo hi : Nat} (h : Wip d0 d lo hi) (ho : Out d d') : Wip d0 d' lo hi := by
  refine ⟨by rw [ho.s.c, h.len], by rw [ho.s.m, h.m], ho.s.wt h.wt, fun j => by rw [ho.s.kp, h.k], by rw [ho.s.w]; exact h.ks, fun j => by rw [ho.s.wr]; exact h.w1 j, fun j hj => by rw [ho.s.wr]; exact h.w2 j (by rw [← ho.s.w]; exact hj), fun hb => ?_⟩
  have := ho.b
  have := h.bud hb
  omega
def WipeR (m : Mp) (A B : Nat) (b : Int) (d0 : Dv) (R : Mp × Int) : Prop :=
  R.1.spans = m.spans ∧ (OpsB b m.ops → OpsB b R.1.ops) ∧ Wip d0 R.1.d (off A b) (off A b + siz A B b) ∧ ((R.2 = 0 ∧ R.1.d.down = false ∧ ∀ y, y < siz A B b → sn R.1.d (off A b + y) = blank) ∨ (R.2 = 62 ∧ R.1.d.down = true ∧ 0 ≤ d0.budget))
theorem wipeN_run (hb : Bit b) (hw0 : ∀ j, wr d0 j < d0.most) : ∀ (n y : Nat) (m : Mp), y + n = siz A B b → Two m A B → m.d.down = false → Wip d0 m.d (off A b) (off A b + y) → (∀ z, z < y → sn m.d (off A b + z) = blank) → WipeR m A B b d0 (Mp.wipeN b n y m)
  | 0, y, m, hn, h2, hu, hw, hs => by
    have e : siz A B b = y := by omega
    refine ⟨rfl, fun h => h, by rw [e]; exact hw, .inl ⟨rfl, hu, fun z hz => hs z (by omega)⟩⟩
  | n + 1, y, m, hn, h2, hu, hw, hs => by
    have hy : y < siz A B b := by omega
    rw [Mp.wipeN_succ]
    by_cases hbl : (m.read b y).1 = blank
    · rw [if_pos hbl]
      rw [two_read h2 hb hy] at hbl
      exact wipeN_run hb hw0 n (y + 1) m (by omega) h2 hu (hw.wide (by omega)) fun z hz => by
        by_cases e : z = y
        · subst e; exact hbl
        · exact hs z (by omega)
    rw [if_neg hbl]
    have hnk : off A b + y ∉ keys m.d.done := fun h => by
      obtain ⟨x, hx, e⟩ := List.mem_map.1 h
      have := (hw.ks x hx).2.1
      omega
    obtain ⟨e1, e2, e3, e4⟩ := two_erase h2 hb hy
    have hwy : wr m.d (off A b + y) < m.d.most := by rw [hw.m]; have := hw.w2 _ hnk; have := hw0 (off A b + y); omega
    rcases erase_cases (two_fit h2 hb hy) hu hwy with ⟨c1, c2⟩ | ⟨c1, c2, c3⟩
    · rw [if_pos (by rw [e2, c1]; decide)]
      refine ⟨e3, e4, ?_, .inr ⟨by rw [e2, c1], by rw [e1]; exact c2.dn, ?_⟩⟩
      · rw [e1]; exact (hw.out c2).wide (by omega)
      · have := c2.b
        by_cases hlt : d0.budget < 0
        · have := hw.bud hlt; omega
        · omega
    · rw [if_neg (by rw [e2, c1]; simp)]
      have hwt := c2.wt hw.wt (two_fit h2 hb hy) hnk
      have hW : Wip d0 (m.erase b y).1.d (off A b) (off A b + (y + 1)) := by
        rw [e1]
        refine ⟨by rw [c2.len, hw.len], by rw [c2.m, hw.m], hwt, fun j => by rw [c2.k, hw.k], ?_, fun j => ?_, fun j hj => ?_, fun hb => ?_⟩
        · rw [c2.w]
          intro x hx
          rcases List.mem_append.1 hx with hx | hx
          · have := hw.ks x hx; exact ⟨this.1, by omega, this.2.2⟩
          · have : x = (off A b + y, blank) := by simpa using hx
            subst this
            exact ⟨by show off A b ≤ off A b + y; omega, by show off A b + y < _; omega, rfl⟩
        · rw [c3]
          split
          · rename_i e; subst e; have := hw.w2 _ hnk; omega
          · exact hw.w1 j
        · rw [c2.w, keys_app, List.mem_append, not_or] at hj
          rw [c3, if_neg (fun e => hj.2 (by subst e; simp [keys]))]
          exact hw.w2 j hj.1
        · have h1 := hw.bud hb
          rw [c2.bud (by omega), h1]
      have hr := wipeN_run hb hw0 n (y + 1) (m.erase b y).1 (by omega) (two_of h2 e3 (by rw [e1, c2.len])) (by rw [e1]; exact c2.up) hW fun z hz => by
        rw [e1, c2.s]
        by_cases e : z = y
        · subst e; rw [if_pos rfl]
        · rw [if_neg (by omega)]; exact hs z (by omega)
      exact ⟨by rw [hr.1, e3], fun h => hr.2.1 (e4 h), hr.2.2⟩
theorem wipe_run (h2 : Two m A B) (hb : Bit b) (hu : m.d.down = false) (hd : m.d.done = []) (hwt : Wt m.d) (hw : ∀ j, wr m.d j < m.d.most) : WipeR m A B b m.d (m.wipe b) := by
  unfold Mp.wipe
  rw [if_neg (fun h => h (two_has h2 hb).1), two_size h2 hb]
  refine wipeN_run hb hw _ 0 m (by omega) h2 hu ⟨rfl, rfl, hwt, fun j => rfl, (by rw [hd]; intro x hx; cases hx), fun j => by omega, fun j _ => by omega, fun _ => rfl⟩ fun z hz => by omega
def pl : Nat → List (List Int) → List (Nat × List Int)
  | _, [] => []
  | n, s :: r => (n, s) :: pl (n + 1) r
theorem pl_mem : ∀ {l : List (List Int)} {n : Nat} {x : Nat × List Int}, x ∈ pl n l → ∃ i, ∃ h : i < l.length, x = (n + i, l[i])
  | [], n, x, h => by cases h
  | s :: r, n, x, h => by
    rcases List.mem_cons.1 h with rfl | h
    · exact ⟨0, by simp, rfl⟩
    · obtain ⟨i, hi, e⟩ := pl_mem h
      exact ⟨i + 1, by simp; omega, by rw [e]; simp; omega⟩
def WriteR (m : Mp) (A B : Nat) (b : Int) (a : Nat) (l : List (List Int)) (R : Mp × Int) : Prop :=
  R.1.spans = m.spans ∧ (OpsB b m.ops → OpsB b R.1.ops) ∧ R.1.d.cells.length = m.d.cells.length ∧ R.1.d.most = m.d.most ∧ (∀ j, wr R.1.d j = wr m.d j) ∧ (m.d.budget < 0 → R.1.d.budget = m.d.budget) ∧
  ((R.2 = 0 ∧ R.1.d.down = false ∧ R.1.d.done = [] ∧ (∀ j, sn R.1.d j = kp R.1.d j) ∧ (∀ i (h : i < l.length), kp R.1.d (off A b + a + i) = l[i]) ∧ ∀ j, (j < off A b + a ∨ off A b + a + l.length ≤ j) → kp R.1.d j = sn m.d j) ∨
   (R.2 = 62 ∧ R.1.d.down = true ∧ 0 ≤ m.d.budget ∧ Wt R.1.d ∧ (∀ j, kp R.1.d j = kp m.d j) ∧ ∃ i, i ≤ l.length ∧ R.1.d.done = m.d.done ++ (pl (off A b + a) l).take i))
theorem write_run (hb : Bit b) : ∀ (l : List (List Int)) (a : Nat) (m : Mp), a + l.length ≤ siz A B b → Two m A B → m.d.down = false → Wt m.d → (∀ y, a ≤ y → y < a + l.length → sn m.d (off A b + y) = blank ∧ off A b + y ∉ keys m.d.done) → WriteR m A B b a l (mWrite b (a : Int) l m)
  | [], a, m, hl, h2, hu, hw, ht => by
    rw [mWrite_nil]
    show WriteR m A B b a [] ({ m with d := m.d.sync.1 }, m.d.sync.2)
    rcases sync_cases hu hw with ⟨c1, c2⟩ | ⟨c1, c2⟩
    · refine ⟨rfl, fun h => h, by show m.d.sync.1.cells.length = _; rw [c2.s.c], c2.s.m, fun j => c2.s.wr, fun hb => by have := c2.b; omega, .inr ⟨c1, c2.dn, c2.b, c2.s.wt hw, fun j => c2.s.kp, 0, by simp, by show m.d.sync.1.done = _; rw [c2.s.w]; simp⟩⟩
    · refine ⟨rfl, fun h => h, c2.len, c2.m, c2.wr, c2.bud, .inl ⟨c1, c2.up, c2.w, fun j => by show sn m.d.sync.1 j = kp m.d.sync.1 j; rw [c2.s, c2.k], fun i h => by simp at h, fun j _ => c2.k j⟩⟩
  | s :: r, a, m, hl, h2, hu, hw, ht => by
    have hl' : a + (r.length + 1) ≤ siz A B b := hl
    have hy : a < siz A B b := by omega
    obtain ⟨t1, t2⟩ := ht a (Nat.le_refl _) (by simp)
    rw [mWrite_cons]
    obtain ⟨e1, e2, e3, e4⟩ := two_program (s := s) h2 hb hy
    rcases program_cases (s := s) (two_fit h2 hb hy) hu t1 with ⟨c1, c2⟩ | ⟨c1, c2, c3⟩
    · rw [if_pos (by rw [e2, c1]; decide)]
      refine ⟨e3, e4, by rw [e1, c2.s.c], by rw [e1, c2.s.m], fun j => by rw [e1, c2.s.wr], fun hb => by have := c2.b; omega, .inr ⟨by rw [e2, c1], by rw [e1]; exact c2.dn, c2.b, by rw [e1]; exact c2.s.wt hw, fun j => by rw [e1, c2.s.kp], 0, by simp, by rw [e1, c2.s.w]; simp⟩⟩
    · rw [if_neg (by rw [e2, c1]; simp)]
      have hwt := c2.wt hw (two_fit h2 hb hy) t2
      have hr := write_run hb r (a + 1) (m.program b a s).1 (by omega) (two_of h2 e3 (by rw [e1, c2.len])) (by rw [e1]; exact c2.up) (by rw [e1]; exact hwt) fun y hy1 hy2 => by
        obtain ⟨u1, u2⟩ := ht y (by omega) (by simp; omega)
        rw [e1, c2.s, c2.w, if_neg (by omega), keys_app, List.mem_append, not_or]
        exact ⟨u1, u2, by simp [keys]; omega⟩
      have ea : ((a + 1 : Nat) : Int) = (a : Int) + 1 := by omega
      rw [ea] at hr
      obtain ⟨r1, r2, r3, r4, r5, r6, r7⟩ := hr
      have r5' := r5
      rw [e1] at r3 r4 r6
      refine ⟨by rw [r1, e3], fun h => r2 (e4 h), by rw [r3, c2.len], by rw [r4, c2.m], fun j => by rw [r5, e1, c3], fun hb => by rw [r6 (by rw [c2.bud hb]; exact hb), c2.bud hb], ?_⟩
      rcases r7 with ⟨q1, q2, q3, q4, q5, q6⟩ | ⟨q1, q2, q3, q4, q5, i, q6, q7⟩
      · refine .inl ⟨q1, q2, q3, q4, fun i hi => ?_, fun j hj => ?_⟩
        · match i, hi with
          | 0, hi =>
            rw [q6 _ (.inl (by omega)), e1, c2.s, if_pos (by omega)]; rfl
          | i + 1, hi =>
            have := q5 i (by simpa using hi)
            rw [show off A b + (a + 1) + i = off A b + a + (i + 1) by omega] at this
            exact this
        · rw [List.length_cons] at hj
          rw [q6 j (by omega), e1, c2.s, if_neg (by omega)]
      · refine .inr ⟨q1, q2, ?_, q4, fun j => by rw [q5, e1, c2.k], i + 1, by simp; omega, ?_⟩
        · by_cases hlt : m.d.budget < 0
          · rw [e1, c2.bud hlt] at q3; omega
          · omega
        · rw [q7, e1, c2.w, List.append_assoc]
          show m.d.done ++ ([(off A b + a, s)] ++ List.take i (pl (off A b + (a + 1)) r)) = m.d.done ++ List.take (i + 1) ((off A b + a, s) :: pl (off A b + a + 1) r)
          rw [show off A b + (a + 1) = off A b + a + 1 by omega]; rfl
end J
set_option linter.unusedVariables false
set_option linter.unusedSimpArgs false
set_option maxRecDepth 100000
namespace J
open Go Go.Ab
variable {d d' d0 d1 : Dv} {m m' : Mp} {s x : List Int} {l ss tt pre rest : List (List Int)} {A B : Nat} {b : Int} {F last : Nat} {body : List Int} {now : List (List Int)}
def Ers (ss tt : List (List Int)) : Prop := tt.length = ss.length ∧ ∀ i (h : i < ss.length) (h' : i < tt.length), Torn ss[i] blank tt[i]
theorem torn_self : Torn s x s := ⟨0, by omega, by simp⟩
theorem ers_self : Ers ss ss := ⟨rfl, fun _ _ _ => torn_self⟩
theorem torn_trans {a b c : List Int} (h : Torn a blank b) (h2 : Torn b blank c) : Torn a blank c := by
  obtain ⟨n, hn, rfl⟩ := h
  obtain ⟨k, hk, rfl⟩ := h2
  have hl : (blank.take n).length = n := by rw [List.length_take, blank_len]; omega
  by_cases h : k ≤ n
  · refine ⟨n, hn, ?_⟩
    rw [List.drop_append_of_le_length (by omega), ← List.append_assoc]
    congr 1
    have : blank.take k = (blank.take n).take k := by rw [List.take_take, Nat.min_eq_left h]
    rw [this, List.take_append_drop]
  · refine ⟨k, hk, ?_⟩
    have e : k = (blank.take n).length + (k - n) := by omega
    conv => lhs; rw [e]
    rw [List.drop_length_add_append, List.drop_drop, hl, show n + (k - n) = k by omega]
theorem ers_trans {ss tt uu : List (List Int)} (h : Ers ss tt) (h2 : Ers tt uu) : Ers ss uu := ⟨by rw [h2.1, h.1], fun i h3 h4 => torn_trans (h.2 i h3 (by rw [h.1]; exact h3)) (h2.2 i (by rw [h.1]; exact h3) h4)⟩
theorem torn_head (h : Torn s blank x) (hx : x.take 2 = [66, 74]) : x = s := by
  obtain ⟨n, hn, rfl⟩ := h
  match n with
  | 0 => simp
  | n + 1 => exact absurd hx (by
      have : blank.take (n + 1) = 255 :: (List.replicate 63 255).take n := rfl
      rw [this]
      simp)
theorem torn_whole (h : Torn s blank x) (hs : s.length = 64) (hx : x.getD 63 1 = 0) : s.getD 63 1 = 0 := by
  obtain ⟨n, hn, rfl⟩ := h
  rw [List.getD_eq_getElem?_getD] at hx ⊢
  have hl : (blank.take n).length = n := by rw [List.length_take, blank_len]; omega
  by_cases h : 63 < n
  · have e : n = 64 := by omega
    subst e
    rw [List.drop_of_length_le (by omega), List.append_nil] at hx
    exact absurd hx (by decide)
  · rw [List.getElem?_append_right (by omega), List.getElem?_drop, hl, show n + (63 - n) = 63 by omega] at hx
    exact hx
theorem torn_new (h : Torn blank s x) (hs : s.length = 64) (hx : x.getD 63 1 = 0) : x = s := by
  obtain ⟨n, hn, rfl⟩ := h
  have hl : (s.take n).length = n := by rw [List.length_take]; omega
  by_cases h : 63 < n
  · rw [List.take_of_length_le (by omega), List.drop_of_length_le (by rw [blank_len]; omega), List.append_nil]
  · rw [List.getD_eq_getElem?_getD, List.getElem?_append_right (by omega), List.getElem?_drop, hl, show n + (63 - n) = 63 by omega] at hx
    exact absurd hx (by decide)
def Oth (ss : List (List Int)) (F : Nat) : Prop := ∀ tt, Ers ss tt → (fStands tt).bodies = [] ∨ (fStands tt).first < F
theorem Oth.ers (h : Oth ss F) (he : Ers ss tt) : Oth tt F := fun uu hu => h uu (ers_trans he hu)
def HeadLt (ss : List (List Int)) (F : Nat) : Prop := ∀ s r, ss = s :: r → s.take 2 = [66, 74] → hSeq s < F
theorem HeadLt.oth (h : HeadLt ss F) : Oth ss F := by
  intro tt ht
  rcases stands_cases (ss := tt) with h1 | ⟨h1, h2⟩
  · exact .inl h1
  · obtain ⟨s, r, e, g1, g2, _⟩ := fGet_inv h1
    right
    rw [h2, g2]
    have hl : 0 < tt.length := by rw [e]; simp
    have hl' : 0 < ss.length := by have := ht.1; omega
    have ht0 := ht.2 0 hl' hl
    have es : tt[0] = s := by simp [e]
    rw [es] at ht0
    have := torn_head ht0 g1
    match ss, hl', this with
    | x :: r', _, this =>
      have this : s = x := this
      rw [this]
      exact h x r' rfl (by rw [← this]; exact g1)
theorem HeadLt.mono {F' : Nat} (h : HeadLt ss F) (hf : F ≤ F') : HeadLt ss F' := fun s r e g => Nat.lt_of_lt_of_le (h s r e g) hf
theorem headLt_put {kind seq : Nat} (hl : body.length ≤ 4000) (hk : kind < 256) (hq : seq < 2 ^ 64) (hs : seq < F) : HeadLt (fPut kind seq body ++ rest) F := by
  intro s r e _
  obtain ⟨s', r', e', hh⟩ := fPut_head (kind := kind) (seq := seq) hl
  rw [e'] at e
  have : s' = s := by injection e
  subst this
  rw [(head_get hh hk hq (by omega)).2.2.1]; exact hs
theorem headLt_pre (h : HeadLt (pre ++ rest) F) (hp : pre ≠ []) : HeadLt (pre ++ tt) F := by
  intro s r e g
  match pre, hp with
  | x :: p, _ =>
    have e : x = s := by injection e
    exact h s (p ++ rest) (by rw [← e]; rfl) g
theorem oth_none (h : ∀ tt, Ers ss tt → (fGet tt).many = 0) : Oth ss F := fun tt ht => .inl (by rw [stands_none (h tt ht)]; rfl)
theorem torn_frame {kind seq n : Nat} (hl : body.length ≤ 4000) (hk : kind < 256) (hq : seq < 2 ^ 64) (hlen : tt.length = (fPut kind seq body).length + n) (h1 : ∀ i (h : i < (fPut kind seq body).length) (h' : i < tt.length), Torn blank (fPut kind seq body)[i] tt[i]) (h2 : ∀ i (h' : i < tt.length), (fPut kind seq body).length ≤ i → tt[i] = blank) :
    tt = fPut kind seq body ++ List.replicate n blank ∨ ∀ uu, Ers tt uu → (fGet uu).many = 0 := by
  have ht64 : ∀ i (h' : i < tt.length), tt[i].length = 64 := fun i h' => by
    by_cases h : i < (fPut kind seq body).length
    · obtain ⟨k, hk, e⟩ := h1 i h h'
      have := fPut_ok _ (List.getElem_mem h)
      rw [e, List.length_append, List.length_take, List.length_drop, this, blank_len]; omega
    · rw [h2 i h' (by omega)]; rfl
  by_cases hall : ∀ i (h : i < (fPut kind seq body).length) (h' : i < tt.length), tt[i] = (fPut kind seq body)[i]
  · left
    apply List.ext_getElem
    · simp [hlen]
    · intro i g1 g2
      by_cases h : i < (fPut kind seq body).length
      · rw [List.getElem_append_left h]; exact hall i h g1
      · rw [List.getElem_append_right (by omega), List.getElem_replicate]; exact h2 i g1 (by omega)
  · right
    intro uu hu
    by_cases h0 : (fGet uu).many = 0
    · exact h0
    exfalso
    apply hall
    obtain ⟨s, r, e, g1, g2, g3, g4⟩ := fGet_inv h0
    have hmle := fGet_many h0
    have hulen := hu.1
    have hlast : ∀ i (h : i < uu.length), i < (fGet uu).many → uu[i].getD 63 1 = 0 := fun i h hi => g4 _ (by
      rw [List.mem_take_iff_getElem]
      exact ⟨i, by omega, rfl⟩)
    have hu0 : 0 < uu.length := by rw [e]; simp
    have es : uu[0] = s := by simp [e]
    have ht0 : 0 < tt.length := by omega
    have e0 : uu[0] = tt[0] := torn_head (hu.2 0 ht0 hu0) (by rw [es]; exact g1)
    have hw0 : tt[0].getD 63 1 = 0 := by rw [← e0]; exact hlast 0 hu0 (by omega)
    obtain ⟨s', r', e', hh⟩ := fPut_head (kind := kind) (seq := seq) hl
    have hf0 : 0 < (fPut kind seq body).length := by rw [e']; simp
    have e1 : tt[0] = (fPut kind seq body)[0] := torn_new (h1 0 hf0 ht0) (fPut_ok _ (List.getElem_mem hf0)) hw0
    have e2 : (fPut kind seq body)[0] = s' := by simp [e']
    have e3 : s = s' := by rw [← es, e0, e1, e2]
    have hsz := fSize_eq hl
    have hmany : (fGet uu).many = (fPut kind seq body).length := by
      rw [g3, e3, (head_get hh hk hq (by omega)).2.2.2, fPut_size]
    intro i h h'
    have hi : i < uu.length := by omega
    have hw := torn_whole (hu.2 i h' hi) (ht64 i h') (hlast i hi (by omega))
    exact torn_new (h1 i h h') (fPut_ok _ (List.getElem_mem h)) hw
structure Jst (d : Dv) (A B : Nat) (i : Int) (F last : Nat) (now : List (List Int)) : Prop where
  i01 : Bit i
  bod : (fStands (bk d A B i)).bodies = now
  lst : (fStands (bk d A B i)).last = last
  fst : now ≠ [] → (fStands (bk d A B i)).first = F
  nil : now = [] → i = 1 ∧ F = 0
  le : F ≤ last
  oth : Oth (bk d A B (1 - i)) F
  own : HeadLt (bk d A B i) (last + 1)
theorem bit_other {i : Int} (h : Bit i) : Bit (1 - i) := by rcases h with rfl | rfl <;> simp [Bit]
theorem jst_open {i : Int} (h2 : Two m A B) (hs : ∀ j, sn m.d j = kp m.d j) (h : Jst m.d A B i F last now) : (jStand m 0 1).bodies = now ∧ jOpen m 0 1 = ⟨0, 1, i, last, 0, false⟩ := by
  have e0 := two_secs h2 (.inl rfl) hs
  have e1 := two_secs h2 (.inr rfl) hs
  have key : (jPick (fStands (m.secs 0)) (fStands (m.secs 1)) ↔ i = 0) := by
    rw [e0, e1]
    unfold jPick
    have ho := h.oth _ ers_self
    rcases h.i01 with rfl | rfl
    · refine ⟨fun _ => rfl, fun _ => ?_⟩
      have hn : now ≠ [] := fun hn => by have := (h.nil hn).1; omega
      have hb := h.bod
      have hf := h.fst hn
      refine ⟨?_, ?_⟩
      · rw [hb]; exact List.length_pos_iff.2 hn
      · rcases ho with ho | ho
        · exact .inl (by rw [show (1 : Int) = 1 - 0 by omega, ho]; rfl)
        · exact .inr (by rw [hf]; exact ho)
    · refine ⟨fun hp => ?_, fun hp => by omega⟩
      exfalso
      rcases ho with ho | ho
      · have := hp.1; rw [show (0 : Int) = 1 - 1 by omega, ho] at this; simp at this
      · by_cases hn : now = []
        · have := (h.nil hn).2; omega
        · have hf := h.fst hn
          have hb := h.bod
          rcases hp.2 with h3 | h3
          · rw [hb] at h3; exact hn (List.length_eq_zero_iff.1 h3)
          · rw [hf] at h3
            have ho : (fStands (bk m.d A B 0)).first < F := ho
            omega
  unfold jStand jOpen
  unfold jStand
  have hb := h.bod
  have hl := h.lst
  by_cases hi : i = 0
  · rw [if_pos (key.2 hi), if_pos (key.2 hi), e0]
    subst hi
    exact ⟨hb, by rw [hl]⟩
  · rw [if_neg (fun h3 => hi (key.1 h3)), if_neg (fun h3 => hi (key.1 h3)), e1]
    have : i = 1 := by have := h.i01; rcases this with h3 | h3; exact absurd h3 hi; exact h3
    subst this
    exact ⟨hb, by rw [hl]⟩
theorem bk_eq (hk : ∀ y, y < siz A B b → kp d' (off A b + y) = kp d (off A b + y)) : bk d' A B b = bk d A B b := by
  unfold bk
  apply List.map_congr_left
  intro y hy
  exact hk y (List.mem_range.1 hy)
theorem jst_ers {i : Int} (h : Jst d A B i F last now) (h1 : bk d' A B i = bk d A B i) (h2 : Ers (bk d A B (1 - i)) (bk d' A B (1 - i))) : Jst d' A B i F last now :=
  ⟨h.i01, by rw [h1]; exact h.bod, by rw [h1]; exact h.lst, fun hn => by rw [h1]; exact h.fst hn, h.nil, h.le, h.oth.ers h2, by rw [h1]; exact h.own⟩
theorem off_apart {i : Int} (hi : Bit i) {j y : Nat} (h1 : off A (1 - i) ≤ j) (h2 : j < off A (1 - i) + siz A B (1 - i)) (hy : y < siz A B i) : off A i + y ≠ j := by
  rcases hi with rfl | rfl
  · have e1 : off A (1 - 0) = A := rfl
    have e2 : siz A B 0 = A := rfl
    have e3 : off A 0 = 0 := rfl
    omega
  · have e1 : off A (1 - 1) = 0 := rfl
    have e2 : siz A B (1 - 1) = A := rfl
    have e3 : off A 1 = A := rfl
    omega
theorem jst_wip {i : Int} (h : Jst d A B i F last now) (hw : Wip d d1 (off A (1 - i)) (off A (1 - i) + siz A B (1 - i))) (ha : Anew d1 d') : Jst d' A B i F last now := by
  refine jst_ers h (bk_eq fun y hy => ?_) ⟨by rw [bk_len, bk_len], fun y h1 h2 => ?_⟩
  · rw [ha.n, hw.k]
    intro hk
    obtain ⟨x, hx, e⟩ := List.mem_map.1 hk
    obtain ⟨k1, k2, _⟩ := hw.ks x hx
    exact off_apart h.i01 k1 k2 hy e.symm
  · rw [bk_get, bk_get]
    by_cases hk : off A (1 - i) + y ∈ keys d1.done
    · obtain ⟨x, hx, e⟩ := List.mem_map.1 hk
      have := ha.t x.1 x.2 hx
      rw [(hw.ks x hx).2.2, hw.k] at this
      have e : x.1 = off A (1 - i) + y := e
      rw [e] at this
      exact this
    · rw [ha.n _ hk, hw.k]
      exact torn_self
end J
set_option linter.unusedVariables false
set_option linter.unusedSimpArgs false
set_option maxRecDepth 100000
namespace J
open Go Go.Ab
variable {d d' d0 d1 : Dv} {m m' : Mp} {s x : List Int} {l ss tt pre rest : List (List Int)} {A B k : Nat} {b : Int} {F last : Nat} {body : List Int} {now more : List (List Int)} {t : Jn}
def Rdy (d : Dv) (A B : Nat) (i : Int) (pos : Int) (F last : Nat) (now : List (List Int)) : Prop := ∃ pre n, bk d A B i = pre ++ List.replicate n blank ∧ Pre pre ⟨now, F, last⟩ ∧ pos = (pre.length : Int) ∧ pre ≠ [] ∧ now ≠ []
structure Up (t : Jn) (m : Mp) (A B : Nat) (now : List (List Int)) : Prop where
  up : m.d.down = false
  done : m.d.done = []
  sk : ∀ j, sn m.d j = kp m.d j
  st : ∃ F, Jst m.d A B t.now F t.last now ∧ (t.ready = true → Rdy m.d A B t.now t.pos F t.last now)
structure Wd (m : Mp) (A B k : Nat) : Prop where
  two : Two m A B
  wear : ∀ j, wr m.d j ≤ k
  most : m.d.most = 10000
structure Jab (t : Jn) : Prop where
  a : t.a = 0
  b : t.b = 1
theorem Up.wt (h : Up t m A B now) : Wt m.d := ⟨by rw [h.done]; simp [keys], (by rw [h.done]; intro x hx; cases hx), (by rw [h.done]; intro i w hi; cases hi), fun i _ => h.sk i⟩
theorem jab_bank (h : Jab t) {i : Int} (hi : Bit i) : t.bank i = i := by
  unfold Jn.bank
  rcases hi with rfl | rfl
  · rw [if_pos rfl]; exact h.a
  · rw [if_neg (by omega)]; exact h.b
structure Fell (t : Jn) (m : Mp) (A B : Nat) (last0 : Nat) (now more : List (List Int)) : Prop where
  dn : m.d.down = true
  wt : Wt m.d
  nr : t.ready = false
  nw : ∀ d', Anew m.d d' → ∃ i F last now', (now' = now ∨ now' = more) ∧ Jst d' A B i F last now' ∧ last ≤ last0 + 1
def ActR (t : Jn) (m : Mp) (A B k : Nat) (b : Int) (now more : List (List Int)) (R : Jn × Mp × Int) : Prop :=
  R.2.1.spans = m.spans ∧ (OpsB b m.ops → OpsB b R.2.1.ops) ∧ Wd R.2.1 A B (k + 1) ∧ Jab R.1 ∧
  ((R.2.2 = 0 ∧ Up R.1 R.2.1 A B more ∧ R.1.ready = true ∧ R.1.last = t.last + 1 ∧ (m.d.budget < 0 → R.2.1.d.budget = m.d.budget)) ∨
   (R.2.2 = 62 ∧ 0 ≤ m.d.budget ∧ Fell R.1 R.2.1 A B t.last now more ∧ R.1.last = t.last))
theorem stands_row {r : Row} {n : Nat} (h : Pre pre r) (e : ss = pre ++ List.replicate n blank) : fStands ss = r := by rw [e]; exact h.stands
theorem bk_hold {i : Int} {n y : Nat} (hp : bk d A B i = pre ++ List.replicate n blank) (h : y < siz A B i) : (∀ h1 : y < pre.length, kp d (off A i + y) = pre[y]) ∧ (pre.length ≤ y → kp d (off A i + y) = blank) := by
  have hlen : (bk d A B i).length = siz A B i := bk_len
  have h0 := bk_get (d := d) (A := A) (B := B) (b := i) (y := y) (by rw [bk_len]; exact h)
  have h1 : (bk d A B i)[y]? = some (kp d (off A i + y)) := by rw [List.getElem?_eq_getElem (by omega), h0]
  rw [hp] at h1 hlen
  simp at hlen
  refine ⟨fun h2 => ?_, fun h2 => ?_⟩
  · rw [List.getElem?_append_left h2, List.getElem?_eq_getElem h2] at h1
    injection h1 with h1; exact h1.symm
  · rw [List.getElem?_append_right h2, List.getElem?_replicate, if_pos (by omega)] at h1
    injection h1 with h1; exact h1.symm
theorem bk_write {i : Int} {a : Nat} (hi : Bit i) (hw : ∀ k (h : k < l.length), kp d' (off A i + a + k) = l[k]) (ho : ∀ j, (j < off A i + a ∨ off A i + a + l.length ≤ j) → kp d' j = kp d j) (n : Nat) (hp : bk d A B i = pre ++ List.replicate n blank) (ha : a = pre.length) (hn : l.length ≤ n) :
    bk d' A B i = pre ++ l ++ List.replicate (n - l.length) blank := by
  have hlen : (bk d A B i).length = siz A B i := bk_len
  rw [hp] at hlen
  simp at hlen
  apply List.ext_getElem
  · rw [bk_len]; simp; omega
  · intro y g1 g2
    rw [bk_get]
    rw [bk_len] at g1
    by_cases h1 : y < pre.length
    · rw [List.getElem_append_left (by simp; omega), List.getElem_append_left h1, ho _ (.inl (by omega))]
      exact (bk_hold hp g1).1 h1
    · by_cases h2 : y < pre.length + l.length
      · rw [List.getElem_append_left (by simp; omega), List.getElem_append_right (by omega)]
        have := hw (y - pre.length) (by omega)
        rw [show off A i + a + (y - pre.length) = off A i + y by omega] at this
        exact this
      · rw [List.getElem_append_right (by simp; omega), List.getElem_replicate, ho _ (.inr (by omega))]
        exact (bk_hold hp g1).2 (by omega)
theorem bk_torn {i : Int} {a c : Nat} (hi : Bit i) (hd : d.done = []) (hk : ∀ j, kp d1 j = kp d j) (hdn : d1.done = (pl (off A i + a) l).take c) (ha : Anew d1 d') (n : Nat) (hp : bk d A B i = pre ++ List.replicate n blank) (hpa : a = pre.length) (hn : l.length ≤ n) :
    ∃ uu, bk d' A B i = pre ++ uu ∧ uu.length = n ∧ (∀ y (h : y < l.length) (h' : y < uu.length), Torn blank l[y] uu[y]) ∧ ∀ y (h' : y < uu.length), l.length ≤ y → uu[y] = blank := by
  have hlen : (bk d A B i).length = siz A B i := bk_len
  rw [hp] at hlen
  simp at hlen
  have hin : ∀ x ∈ d1.done, ∃ y, ∃ h : y < l.length, x = (off A i + a + y, l[y]) := fun x hx => by
    rw [hdn] at hx
    exact pl_mem (List.mem_of_mem_take hx)
  have hold : ∀ y (h : y < siz A B i), kp d (off A i + y) = (pre ++ List.replicate n blank)[y]'(by simp; omega) := fun y h => by
    have := bk_get (d := d) (A := A) (B := B) (b := i) (y := y) (by rw [bk_len]; exact h)
    rw [← this]
    simp [hp]
  refine ⟨(bk d' A B i).drop pre.length, ?_, by rw [List.length_drop, bk_len]; omega, fun y h h' => ?_, fun y h' hy => ?_⟩
  · have e : bk d' A B i = (bk d' A B i).take pre.length ++ (bk d' A B i).drop pre.length := (List.take_append_drop _ _).symm
    have e2 : (bk d' A B i).take pre.length = pre := by
      apply List.ext_getElem
      · rw [List.length_take, bk_len]; omega
      · intro y g1 g2
        rw [List.getElem_take, bk_get, ha.n _ (fun hk => ?_), hk, hold y (by omega), List.getElem_append_left g2]
        obtain ⟨x, hx, e⟩ := List.mem_map.1 hk
        obtain ⟨z, hz, rfl⟩ := hin x hx
        have e : off A i + a + z = off A i + y := e
        omega
    rw [e2] at e
    exact e
  · rw [List.getElem_drop, bk_get]
    by_cases hkk : off A i + (pre.length + y) ∈ keys d1.done
    · obtain ⟨x, hx, e⟩ := List.mem_map.1 hkk
      obtain ⟨z, hz, rfl⟩ := hin x hx
      have e : off A i + a + z = off A i + (pre.length + y) := e
      have hzy : z = y := by omega
      subst hzy
      have := ha.t _ _ hx
      rw [hk, e, hold _ (by omega), List.getElem_append_right (by omega), List.getElem_replicate] at this
      exact this
    · rw [ha.n _ hkk, hk, hold _ (by omega), List.getElem_append_right (by omega), List.getElem_replicate]
      exact ⟨0, by omega, by simp⟩
  · rw [List.length_drop, bk_len] at h'
    rw [List.getElem_drop, bk_get, ha.n _ (fun hk => ?_), hk, hold _ (by omega), List.getElem_append_right (by omega), List.getElem_replicate]
    obtain ⟨x, hx, e⟩ := List.mem_map.1 hk
    obtain ⟨z, hz, rfl⟩ := hin x hx
    have e : off A i + a + z = off A i + (pre.length + y) := e
    omega
theorem bk_other {i : Int} {a : Nat} (hi : Bit i) (hk : ∀ j, (j < off A i + a ∨ off A i + a + l.length ≤ j) → kp d' j = kp d j) (hl : a + l.length ≤ siz A B i) : bk d' A B (1 - i) = bk d A B (1 - i) := by
  refine bk_eq fun y hy => hk _ ?_
  by_cases h1 : off A (1 - i) + y < off A i + a
  · exact .inl h1
  · refine .inr ?_
    by_cases h2 : off A i + a + l.length ≤ off A (1 - i) + y
    · exact h2
    · have := off_apart (A := A) (B := B) (i := 1 - i) (bit_other hi) (j := off A (1 - i) + y) (y := y) (by rw [show (1 : Int) - (1 - i) = i by omega]; omega) (by rw [show (1 : Int) - (1 - i) = i by omega]; omega) hy
      omega
theorem bk_other_torn {i : Int} {a c : Nat} (hi : Bit i) (hk : ∀ j, kp d1 j = kp d j) (hdn : d1.done = (pl (off A i + a) l).take c) (ha : Anew d1 d') (hl : a + l.length ≤ siz A B i) : bk d' A B (1 - i) = bk d A B (1 - i) := by
  refine bk_other (l := l) (a := a) hi (fun j hj => ?_) hl
  rw [ha.n, hk]
  intro hkk
  obtain ⟨x, hx, e⟩ := List.mem_map.1 hkk
  rw [hdn] at hx
  obtain ⟨z, hz, rfl⟩ := pl_mem (List.mem_of_mem_take hx)
  have e : off A i + a + z = j := e
  omega
theorem jst_base {i : Int} {n : Nat} (hi : Bit i) (h : HeadLt (bk d' A B (1 - i)) (last + 1)) (hb : bk d' A B i = fPut 1 (last + 1) body ++ List.replicate n blank) (hl : body.length ≤ 4000) (hq : last + 1 < 2 ^ 64) : Jst d' A B i (last + 1) (last + 1) [body] := by
  have hs := stands_row (pre_base (body := body) (seq := last + 1) hl hq) hb
  refine ⟨hi, by rw [hs], by rw [hs], fun _ => by rw [hs], fun hn => absurd hn (by simp), Nat.le_refl _, h.oth, ?_⟩
  rw [hb]
  exact headLt_put hl (by omega) hq (by omega)
theorem begin_up (hw : Wd m A B k) (hk : k + 1 < 10000) (hu : Up t m A B now) (hab : Jab t) (hr : t.room m body.length) (hlast : t.last + 1 < 2 ^ 62) :
    ActR t m A B k (1 - t.now) now [body] (jBegin t m body) ∧ ((jBegin t m body).2.2 = 0 → (jBegin t m body).1.now = 1 - t.now) := by
  obtain ⟨F, hj, _⟩ := hu.st
  have hi := hj.i01
  have ho := bit_other hi
  have hbank := jab_bank hab ho
  have hr0 := Decidable.not_not.1 (show ¬ ¬ t.fits m body.length from fun h => hr (.inl h))
  have hsz : fSize body.length ≤ siz A B (1 - t.now) := by
    have h1 := hr0.2.1
    have h2 := hr0.2.2
    rw [hab.a, two_size hw.two (.inl rfl)] at h1
    rw [hab.b, two_size hw.two (.inr rfl)] at h2
    rcases ho with h | h <;> rw [h] <;> assumption
  have hl4 : body.length ≤ 4000 := by
    have := hr0.1
    unfold fSize at this
    by_cases h : (body.length : Int) < 0 ∨ 4000 < (body.length : Int)
    · rw [if_pos h] at this; omega
    · omega
  have hll : (fPut 1 (t.last + 1) body).length ≤ siz A B (1 - t.now) := by rw [fPut_size]; exact hsz
  have w0 : ∀ j, wr m.d j < m.d.most := fun j => by have := hw.wear j; rw [hw.most]; omega
  have hW := wipe_run hw.two ho hu.up hu.done hu.wt w0
  unfold jBegin
  rw [if_neg (fun h => h hr)]
  simp only
  rw [hbank]
  obtain ⟨v1, v2, v3, v4⟩ := hW
  generalize m.wipe (1 - t.now) = W at *
  have t1 : Two W.1 A B := two_of hw.two v1 v3.len
  rcases v4 with ⟨u1, u2, u3⟩ | ⟨u1, u2, u3⟩
  · rw [if_neg (by rw [u1]; simp)]
    have sy : W.1.sync = ({ W.1 with d := W.1.d.sync.1 }, W.1.d.sync.2) := rfl
    rcases sync_cases u2 v3.wt with ⟨c1, c2⟩ | ⟨c1, c2⟩
    · rw [if_pos (by rw [sy]; show W.1.d.sync.2 ≠ 0; rw [c1]; decide)]
      have hv := v3.out c2
      refine ⟨⟨v1, v2, ⟨two_of t1 rfl (by show W.1.d.sync.1.cells.length = _; rw [c2.s.c]), fun j => by have h3 := hv.w1 j; have h4 := hw.wear j; show wr W.1.d.sync.1 j ≤ ((k + 1 : Nat) : Int); omega, by show W.1.d.sync.1.most = _; rw [hv.m, hw.most]⟩, ⟨hab.a, hab.b⟩, .inr ⟨c1, ?_, ⟨c2.dn, c2.s.wt v3.wt, rfl, fun d' ha => ⟨t.now, F, t.last, now, .inl rfl, jst_wip hj hv ha, by omega⟩⟩, rfl⟩⟩, fun h => ?_⟩
      · by_cases hlt : m.d.budget < 0
        · have := v3.bud hlt; have := c2.b; omega
        · omega
      · exact absurd (c1.symm.trans h) (by decide)
    · rw [if_neg (by rw [sy]; show ¬ W.1.d.sync.2 ≠ 0; rw [c1]; simp)]
      rw [sy]
      simp only
      generalize hY : ({ W.1 with d := W.1.d.sync.1 } : Mp) = Y at *
      have hYd : Y.d = W.1.d.sync.1 := by rw [← hY]
      have hYs : Y.spans = W.1.spans := by rw [← hY]
      have hYo : Y.ops = W.1.ops := by rw [← hY]
      have t2 : Two Y A B := two_of t1 hYs (by rw [hYd, c2.len])
      have hblank : ∀ y, y < siz A B (1 - t.now) → kp Y.d (off A (1 - t.now) + y) = blank := fun y hy => by rw [hYd, c2.k]; exact u3 y hy
      have hbo : bk Y.d A B (1 - t.now) = [] ++ List.replicate (siz A B (1 - t.now)) blank := by
        rw [List.nil_append]
        apply List.ext_getElem
        · rw [bk_len, List.length_replicate]
        · intro y g1 g2
          rw [bk_get, List.getElem_replicate]
          rw [bk_len] at g1
          exact hblank y g1
      have hbi : bk Y.d A B t.now = bk m.d A B t.now := bk_eq fun y hy => by
        have hnk : off A t.now + y ∉ keys W.1.d.done := fun hkk => by
          obtain ⟨x, hx, e⟩ := List.mem_map.1 hkk
          obtain ⟨k1, k2, _⟩ := v3.ks x hx
          exact off_apart hi k1 k2 hy e.symm
        rw [hYd, c2.k, v3.wt.n _ hnk, v3.k]
      have eoo : (1 : Int) - (1 - t.now) = t.now := by omega
      have hYwt : Wt Y.d := by rw [hYd]; exact c2.wt
      have hYdone : Y.d.done = [] := by rw [hYd]; exact c2.w
      have hYsn : ∀ j, sn Y.d j = kp Y.d j := fun j => by rw [hYd, c2.s, c2.k]
      have hR := write_run (b := 1 - t.now) ho (fPut 1 (t.last + 1) body) 0 Y (by omega) t2 (by rw [hYd]; exact c2.up) hYwt (fun y _ hy => ⟨by rw [hYsn]; exact hblank y (by omega), by rw [hYdone]; simp [keys]⟩)
      have e0 : ((0 : Nat) : Int) = 0 := rfl
      rw [e0] at hR
      obtain ⟨q1, q2, q3, q4, q5, q6, q7⟩ := hR
      have hfin : ∀ Z : Mp, Z.spans = Y.spans → Z.d.cells.length = Y.d.cells.length → Z.d.most = Y.d.most → (∀ j, wr Z.d j = wr Y.d j) → Wd Z A B (k + 1) := fun Z z1 z2 z3 z4 => by
        refine ⟨two_of t2 z1 z2, fun j => ?_, by rw [z3, hYd, c2.m, v3.m, hw.most]⟩
        rw [z4, hYd, c2.wr]
        have h3 := v3.w1 j
        have h4 := hw.wear j
        omega
      have hWd := hfin _ q1 q3 q4 q5
      generalize mWrite (1 - t.now) 0 (fPut 1 (t.last + 1) body) Y = Z at *
      rcases q7 with ⟨r1, r2, r3, r4, r5, r6⟩ | ⟨r1, r2, r3, r4, r5, c, r6, r7⟩
      · rw [if_neg (by rw [r1]; simp)]
        have r6' : ∀ j, (j < off A (1 - t.now) + 0 ∨ off A (1 - t.now) + 0 + (fPut 1 (t.last + 1) body).length ≤ j) → kp Z.1.d j = kp Y.d j := fun j hj => by rw [r6 j hj, hYsn]
        have z1 := bk_write (pre := []) ho r5 r6' _ hbo rfl hll
        have z2 := bk_other (A := A) (B := B) ho r6' (by omega)
        rw [eoo, hbi] at z2
        rw [List.nil_append] at z1
        have hjst : Jst Z.1.d A B (1 - t.now) (t.last + 1) (t.last + 1) [body] := jst_base ho (by rw [eoo, z2]; exact hj.own) z1 hl4 (by omega)
        have hne : fPut 1 (t.last + 1) body ≠ [] := fun h => by have := fPut_many (kind := 1) (seq := t.last + 1) hl4; rw [h] at this; simp at this; omega
        refine ⟨⟨by show Z.1.spans = _; rw [q1, hYs, v1], fun h => q2 (by rw [hYo]; exact v2 h), hWd, ⟨hab.a, hab.b⟩, .inl ⟨rfl, ⟨r2, r3, r4, _, hjst, fun _ => ⟨_, _, z1, pre_base hl4 (by omega), rfl, hne, by simp⟩⟩, rfl, rfl, fun hb => ?_⟩⟩, fun _ => rfl⟩
        have g1 := v3.bud hb
        have g2 := c2.bud (by omega)
        have g3 := q6 (by rw [hYd, g2]; omega)
        show Z.1.d.budget = _
        rw [g3, hYd, g2, g1]
      · rw [if_pos (by rw [r1]; decide)]
        rw [hYdone, List.nil_append, Nat.add_zero] at r7
        refine ⟨⟨by show Z.1.spans = _; rw [q1, hYs, v1], fun h => q2 (by rw [hYo]; exact v2 h), hWd, ⟨hab.a, hab.b⟩, .inr ⟨r1, ?_, ⟨r2, r4, rfl, fun d' ha => ?_⟩, rfl⟩⟩, fun h => absurd (r1.symm.trans h) (by decide)⟩
        · by_cases hlt : m.d.budget < 0
          · have g1 := v3.bud hlt
            have g2 := c2.bud (by omega)
            rw [hYd, g2] at r3; omega
          · omega
        · obtain ⟨uu, x1, x2, x3, x4⟩ := bk_torn (a := 0) (pre := []) ho hYdone r5 r7 ha _ hbo rfl hll
          rw [List.nil_append] at x1
          have z2 := bk_other_torn (a := 0) (B := B) ho r5 r7 ha (by omega)
          rw [eoo, hbi] at z2
          rcases torn_frame (n := siz A B (1 - t.now) - (fPut 1 (t.last + 1) body).length) hl4 (by omega) (by omega) (by rw [x2]; omega) x3 x4 with hf | hf
          · exact ⟨1 - t.now, t.last + 1, t.last + 1, [body], .inr rfl, jst_base ho (by rw [eoo, z2]; exact hj.own) (x1.trans hf) hl4 (by omega), Nat.le_refl _⟩
          · exact ⟨t.now, F, t.last, now, .inl rfl, ⟨hi, by rw [z2]; exact hj.bod, by rw [z2]; exact hj.lst, fun hn => by rw [z2]; exact hj.fst hn, hj.nil, hj.le, by rw [x1]; exact oth_none hf, by rw [z2]; exact hj.own⟩, by omega⟩
  · rw [if_pos (by rw [u1]; decide)]
    exact ⟨⟨v1, v2, ⟨t1, fun j => by have h3 := v3.w1 j; have h4 := hw.wear j; show wr W.1.d j ≤ ((k + 1 : Nat) : Int); omega, by show W.1.d.most = _; rw [v3.m, hw.most]⟩, ⟨hab.a, hab.b⟩, .inr ⟨u1, u3, ⟨u2, v3.wt, rfl, fun d' ha => ⟨t.now, F, t.last, now, .inl rfl, jst_wip hj v3 ha, by omega⟩⟩, rfl⟩⟩, fun h => absurd (u1.symm.trans h) (by decide)⟩
theorem append_up (hw : Wd m A B k) (hk : k + 1 < 10000) (hu : Up t m A B now) (hab : Jab t) (hrd : t.ready = true) (hm : t.more m (fPut 2 (t.last + 1) body).length) (hlast : t.last + 1 < 2 ^ 62) :
    ActR t m A B k t.now now (now ++ [body]) (jAppend t m body) := by
  obtain ⟨F, hj, hrdy⟩ := hu.st
  obtain ⟨pre, n, p1, p2, p3, p4, p5⟩ := hrdy hrd
  have hi := hj.i01
  have hbank := jab_bank hab hi
  have hlen : (bk m.d A B t.now).length = siz A B t.now := bk_len
  rw [p1] at hlen
  simp at hlen
  have hleft : t.left m = (n : Int) := by
    unfold Jn.left
    rw [if_neg (by simp [hrd]), hbank, two_size hw.two hi, p3]; omega
  have hm0 : (fPut 2 (t.last + 1) body).length ≠ 0 := fun h => hm (.inl h)
  have hm1 : ¬ t.left m < (fPut 2 (t.last + 1) body).length := fun h => hm (.inr (.inl h))
  have hll : (fPut 2 (t.last + 1) body).length ≤ n := by rw [hleft] at hm1; omega
  have hl4 : body.length ≤ 4000 := by
    by_cases h : body.length ≤ 4000
    · exact h
    · exact absurd (show (fPut 2 (t.last + 1) body).length = 0 by unfold fPut; rw [if_pos (by omega)]; rfl) hm0
  unfold jAppend
  rw [if_neg (by simp [hrd])]
  simp only
  rw [if_neg (fun h => h hm), hbank, p3]
  have hR := write_run (b := t.now) hi (fPut 2 (t.last + 1) body) pre.length m (by omega) hw.two hu.up hu.wt (fun y hy1 hy2 => ⟨by
    rw [hu.sk]
    exact (bk_hold p1 (by omega)).2 hy1, by rw [hu.done]; simp [keys]⟩)
  obtain ⟨q1, q2, q3, q4, q5, q6, q7⟩ := hR
  have hWd : Wd (mWrite t.now pre.length (fPut 2 (t.last + 1) body) m).1 A B (k + 1) := ⟨two_of hw.two q1 q3, fun j => by rw [q5]; have := hw.wear j; omega, by rw [q4, hw.most]⟩
  generalize mWrite t.now pre.length (fPut 2 (t.last + 1) body) m = Z at *
  have hpre2 := pre_next (body := body) p2 hl4 (show t.last + 1 < 2 ^ 64 by omega)
  have hown : ∀ {uu : List (List Int)}, HeadLt (pre ++ uu) (t.last + 1) := fun {uu} => headLt_pre (rest := List.replicate n blank) (by rw [← p1]; exact hj.own) p4
  rcases q7 with ⟨r1, r2, r3, r4, r5, r6⟩ | ⟨r1, r2, r3, r4, r5, c, r6, r7⟩
  · rw [if_neg (by rw [r1]; simp)]
    have r6' : ∀ j, (j < off A t.now + pre.length ∨ off A t.now + pre.length + (fPut 2 (t.last + 1) body).length ≤ j) → kp Z.1.d j = kp m.d j := fun j hj => by rw [r6 j hj, hu.sk]
    have z1 := bk_write hi r5 r6' _ p1 rfl hll
    have z2 := bk_other (A := A) (B := B) hi r6' (by omega)
    have hs := stands_row hpre2 z1
    refine ⟨q1, q2, hWd, ⟨hab.a, hab.b⟩, .inl ⟨rfl, ⟨r2, r3, r4, F, ⟨hi, by show (fStands (bk Z.1.d A B t.now)).bodies = _; rw [hs], by show (fStands (bk Z.1.d A B t.now)).last = _; rw [hs], fun _ => by show (fStands (bk Z.1.d A B t.now)).first = _; rw [hs], fun h => absurd h (by simp), by show F ≤ t.last + 1; have := hj.le; omega, by show Oth (bk Z.1.d A B (1 - t.now)) F; rw [z2]; exact hj.oth, ?_⟩, fun _ => ⟨_, _, z1, hpre2, ?_, ?_, by simp⟩⟩, hrd, rfl, q6⟩⟩
    · show HeadLt (bk Z.1.d A B t.now) (t.last + 1 + 1)
      rw [z1, List.append_assoc]
      exact hown.mono (by omega)
    · show (pre.length : Int) + _ = _
      simp
    · simp [p4]
  · rw [if_pos (by rw [r1]; decide)]
    rw [hu.done, List.nil_append] at r7
    refine ⟨q1, q2, hWd, ⟨hab.a, hab.b⟩, .inr ⟨r1, r3, ⟨r2, r4, rfl, fun d' ha => ?_⟩, rfl⟩⟩
    obtain ⟨uu, x1, x2, x3, x4⟩ := bk_torn hi hu.done r5 r7 ha _ p1 rfl hll
    have z2 := bk_other_torn (B := B) hi r5 r7 ha (by omega)
    have hhd : HeadLt (bk d' A B t.now) (t.last + 1) := by rw [x1]; exact hown
    rcases torn_frame (n := n - (fPut 2 (t.last + 1) body).length) hl4 (by omega) (show t.last + 1 < 2 ^ 64 by omega) (by rw [x2]; omega) x3 x4 with hf | hf
    · have hs : fStands (bk d' A B t.now) = _ := stands_row hpre2 (by rw [x1, hf, ← List.append_assoc])
      exact ⟨t.now, F, t.last + 1, now ++ [body], .inr rfl, ⟨hi, by rw [hs], by rw [hs], fun _ => by rw [hs], fun h => absurd h (by simp), by have := hj.le; omega, by rw [z2]; exact hj.oth, hhd.mono (by omega)⟩, Nat.le_refl _⟩
    · have hs : fStands (bk d' A B t.now) = ⟨now, F, t.last⟩ := by rw [x1]; exact p2.stop (hf uu ers_self)
      exact ⟨t.now, F, t.last, now, .inl rfl, ⟨hi, by rw [hs], by rw [hs], fun _ => by rw [hs], hj.nil, hj.le, by rw [z2]; exact hj.oth, hhd⟩, by omega⟩
theorem wipeN_down (hb : Bit b) (hu : m.d.down = true) (h2 : Two m A B) : ∀ (n y : Nat), y + n = siz A B b → (Mp.wipeN b n y m) = (m, 0) ∨ (Mp.wipeN b n y m) = (m, 62)
  | 0, y, h => .inl rfl
  | n + 1, y, h => by
    rw [Mp.wipeN_succ]
    split
    · exact wipeN_down hb hu h2 n (y + 1) (by omega)
    · have e : m.erase b y = (m, 62) := by
        unfold Mp.erase
        rw [two_place h2 hb (by omega), if_neg (by simp), erase_down (two_fit h2 hb (by omega)) hu]
        rfl
      rw [e, if_pos (show (62 : Int) ≠ 0 by decide)]
      exact .inr rfl
theorem begin_down (h2 : Two m A B) (hu : m.d.down = true) (hab : Jab t) (hi : Bit t.now) : jBegin t m body = (t, m, 92) ∨ jBegin t m body = ({ t with ready := false }, m, 62) := by
  unfold jBegin
  split
  · exact .inl rfl
  right
  simp only
  rw [jab_bank hab (bit_other hi)]
  have hs : m.sync = (m, 62) := by
    unfold Mp.sync
    rw [sync_down hu]
  have hwp : m.wipe (1 - t.now) = Mp.wipeN (1 - t.now) (siz A B (1 - t.now)) 0 m := by
    unfold Mp.wipe
    rw [if_neg (fun h => h (two_has h2 (bit_other hi)).1), two_size h2 (bit_other hi)]
  rw [hwp]
  rcases wipeN_down (bit_other hi) hu h2 (siz A B (1 - t.now)) 0 (by omega) with h | h
  · rw [h, if_neg (by simp), hs, if_pos (show (62 : Int) ≠ 0 by decide)]
  · rw [h, if_pos (show (62 : Int) ≠ 0 by decide)]
end J
set_option linter.unusedVariables false
set_option linter.unusedSimpArgs false
set_option maxRecDepth 100000
namespace J
open Go Go.Ab
variable {d d' d0 d1 : Dv} {m m' : Mp} {s x : List Int} {l ss tt : List (List Int)} {A B k : Nat} {b part pos : Int} {body : List Int} {t : Jn} {a : Int}
structure Cell.By (c : Cell) : Prop where
  k : J.By c.kept
  s : J.By c.seen
structure BD (d : Dv) : Prop where
  c : ∀ c ∈ d.cells, c.By
  w : ∀ x ∈ d.done, By x.2
theorem by_blank : By blank := fun x hx => by rw [List.eq_of_mem_replicate hx]; omega
theorem by_zeros : By zeros := fun x hx => by rw [List.eq_of_mem_replicate hx]; omega
theorem by_take (h : By s) (n : Nat) : By (s.take n) := fun x hx => h x (List.mem_of_mem_take hx)
theorem by_drop (h : By s) (n : Nat) : By (s.drop n) := fun x hx => h x (List.mem_of_mem_drop hx)
theorem getD_by {l : List Cell} {n : Nat} (h : ∀ c ∈ l, c.By) : (l.getD n zCell).By := by
  rw [List.getD_eq_getElem?_getD]
  by_cases hn : n < l.length
  · rw [List.getElem?_eq_getElem hn]; exact h _ (List.getElem_mem hn)
  · rw [List.getElem?_eq_none (by omega)]; exact ⟨by_zeros, by_zeros⟩
theorem mem_set_by {l : List Cell} {i : Nat} {c : Cell} (h : ∀ c ∈ l, c.By) (hc : c.By) : ∀ x ∈ l.set i c, x.By := by
  intro x hx
  rcases List.mem_or_eq_of_mem_set hx with h' | h'
  · exact h x h'
  · rw [h']; exact hc
theorem step_bd (h : BD d) : BD d.step := ⟨h.c, h.w⟩
theorem cell_by (h : BD d) : (d.cell a).By := getD_by h.c
theorem put_bd (h : BD d) (hs : By s) : BD (d.put a s) := ⟨mem_set_by h.c ⟨(cell_by h).k, hs⟩, fun x hx => by
  rcases List.mem_append.1 hx with hx | hx
  · exact h.w x hx
  · have : x = (a.toNat, s) := by simpa using hx
    subst this; exact hs⟩
theorem erase_bd (h : BD d) : BD (d.erase a).1 := by
  unfold Dv.erase
  split
  · exact h
  split
  · exact h
  split
  · exact h
  split
  · exact step_bd h
  · exact put_bd (d := d.step.upd a { d.cell a with wear := (d.cell a).wear + 1 }) ⟨mem_set_by h.c ⟨(cell_by h).k, (cell_by h).s⟩, h.w⟩ by_blank
theorem program_bd (h : BD d) (hs : By s) : BD (d.program a s).1 := by
  unfold Dv.program
  split
  · exact h
  split
  · exact h
  split
  · exact h
  split
  · exact step_bd h
  · exact put_bd (step_bd h) hs
theorem keepAll_by : ∀ (l : List (Nat × List Int)) (cs : List Cell), (∀ c ∈ cs, c.By) → (∀ x ∈ l, By x.2) → ∀ c ∈ keepAll cs l, c.By
  | [], _, h, _ => h
  | x :: l, cs, h, hl => keepAll_by l (keep1 cs x) (mem_set_by h ⟨hl x List.mem_cons_self, (getD_by h).s⟩) fun y hy => hl y (List.mem_cons_of_mem _ hy)
theorem tearAll_by : ∀ (l : List ((Nat × List Int) × Int)) (cs : List Cell), (∀ c ∈ cs, c.By) → (∀ x ∈ l, By x.1.2) → ∀ c ∈ tearAll cs l, c.By
  | [], _, h, _ => h
  | x :: l, cs, h, hl => tearAll_by l (tear1 cs x.1 x.2) (mem_set_by h ⟨By.app' (by_take (hl x List.mem_cons_self) _) (by_drop (getD_by h).k _), (getD_by h).s⟩) fun y hy => hl y (List.mem_cons_of_mem _ hy)
theorem seeAll_by : ∀ (l : List (Nat × List Int)) (cs : List Cell), (∀ c ∈ cs, c.By) → ∀ c ∈ seeAll cs l, c.By
  | [], _, h => h
  | x :: l, cs, h => seeAll_by l (see1 cs x) (mem_set_by h ⟨(getD_by h).k, (getD_by h).k⟩)
theorem sync_bd (h : BD d) : BD d.sync.1 := by
  unfold Dv.sync
  split
  · exact h
  split
  · exact step_bd h
  · exact ⟨keepAll_by _ _ h.c h.w, fun x hx => by cases hx⟩
theorem restart_bd (h : BD d) (ks : List Int) : BD (d.restart ks) := ⟨seeAll_by _ _ (tearAll_by _ _ h.c fun x hx => h.w x.1 (List.of_mem_zip hx).1), fun x hx => by cases hx⟩
theorem new_bd {n : Nat} {w : Int} : BD (Dv.new n w) := ⟨fun c hc => by rw [(List.mem_replicate.1 hc).2]; exact ⟨by_blank, by_blank⟩, fun x hx => by cases hx⟩
theorem note_bd {o : Op} {e : Int} (h : BD m.d) : BD (m.note o e).d := by rw [Mp.note_d]; exact h
theorem mErase_bd (h : BD m.d) : BD (m.erase part pos).1.d := by
  unfold Mp.erase
  split
  · exact h
  · exact note_bd (m := { m with d := _ }) (erase_bd h)
theorem mProgram_bd (h : BD m.d) (hs : By s) : BD (m.program part pos s).1.d := by
  unfold Mp.program
  split
  · exact h
  · exact note_bd (m := { m with d := _ }) (program_bd h hs)
theorem wipeN_bd : ∀ (n y : Nat) (m : Mp), BD m.d → BD (Mp.wipeN part n y m).1.d
  | 0, _, m, h => h
  | n + 1, y, m, h => by
    rw [Mp.wipeN_succ]
    split
    · exact wipeN_bd n (y + 1) m h
    split
    · exact mErase_bd h
    · exact wipeN_bd n (y + 1) _ (mErase_bd h)
theorem wipe_bd (h : BD m.d) : BD (m.wipe part).1.d := by
  unfold Mp.wipe
  split
  · exact h
  · exact wipeN_bd _ _ _ h
theorem mWrite_bd : ∀ (l : List (List Int)) (a : Int) (m : Mp), BD m.d → (∀ s ∈ l, By s) → BD (mWrite b a l m).1.d
  | [], _, m, h, _ => sync_bd h
  | s :: r, a, m, h, hs => by
    rw [mWrite_cons]
    split
    · exact mProgram_bd h (hs s List.mem_cons_self)
    · exact mWrite_bd r _ _ (mProgram_bd h (hs s List.mem_cons_self)) fun x hx => hs x (List.mem_cons_of_mem _ hx)
theorem padS_by (h : By s) : By (padS s) := by
  refine By.app' h (By.app' (fun x hx => ?_) (fun x hx => ?_))
  · rw [List.eq_of_mem_replicate hx]; omega
  · have : x = 0 := by simpa using hx
    omega
theorem fPut_by {kind seq : Nat} (hk : kind < 256) (hb : By body) : ∀ s ∈ fPut kind seq body, By s := by
  intro s hs
  unfold fPut at hs
  split at hs
  · cases hs
  · obtain ⟨i, _, rfl⟩ := List.mem_map.1 hs
    exact padS_by (by_take (by_drop (By.app' (head_by hk hb) (leN_by _ _)) _) _)
theorem begin_bd (h : BD m.d) (hb : By body) : BD (jBegin t m body).2.1.d := by
  unfold jBegin
  split
  · exact h
  simp only
  split
  · exact wipe_bd h
  have h2 : ∀ p, BD ((m.wipe p).1.sync).1.d := fun p => sync_bd (wipe_bd h)
  split
  · exact h2 _
  split
  · exact mWrite_bd _ _ _ (h2 _) (fPut_by (by omega) hb)
  · exact mWrite_bd _ _ _ (h2 _) (fPut_by (by omega) hb)
theorem append_bd (h : BD m.d) (hb : By body) : BD (jAppend t m body).2.1.d := by
  unfold jAppend
  split
  · exact h
  simp only
  split
  · exact h
  split
  · exact mWrite_bd _ _ _ h (fPut_by (by omega) hb)
  · exact mWrite_bd _ _ _ h (fPut_by (by omega) hb)
theorem secs_by (h : BD m.d) : ∀ s ∈ m.secs part, By s := by
  intro s hs
  obtain ⟨y, _, rfl⟩ := List.mem_map.1 hs
  unfold Mp.read
  split
  · exact by_zeros
  · unfold Dv.read
    split
    · exact (cell_by h).s
    · exact by_zeros
structure Use (A B k : Nat) (t : Jn) (m : Mp) : Prop where
  wd : Wd m A B k
  ok : m.Ok
  jok : t.Ok
  jab : Jab t
  sm : m.Sm (5000 * k)
  bd : BD m.d
  lk : t.last ≤ k
  bit : Bit t.now
structure Dn (A B k : Nat) (t : Jn) (m : Mp) (poss : List (List (List Int))) : Prop where
  dn : m.d.down = true
  wt : Wt m.d
  nr : t.ready = false
  nw : ∀ d', Anew m.d d' → ∃ i F last now', now' ∈ poss ∧ Jst d' A B i F last now' ∧ last ≤ k
def HInv (A B k : Nat) (t : Jn) (m : Mp) (now : List (List Int)) (maybe : List (List (List Int))) : Prop := Use A B k t m ∧ ((Up t m A B now ∧ maybe = []) ∨ Dn A B k t m (now :: maybe))
theorem Wd.mono {k' : Nat} (h : Wd m A B k) (hk : k ≤ k') : Wd m A B k' := ⟨h.two, fun j => by have := h.wear j; omega, h.most⟩
theorem Use.mono {k' : Nat} (h : Use A B k t m) (hk : k ≤ k') : Use A B k' t m := ⟨h.wd.mono hk, h.ok, h.jok, h.jab, h.sm.mono (by omega), h.bd, by have := h.lk; omega, h.bit⟩
theorem Dn.mono {k' : Nat} {p : List (List (List Int))} (h : Dn A B k t m p) (hk : k ≤ k') : Dn A B k' t m p := ⟨h.dn, h.wt, h.nr, fun d' ha => by
  obtain ⟨i, F, last, now', h1, h2, h3⟩ := h.nw d' ha
  exact ⟨i, F, last, now', h1, h2, by omega⟩⟩
theorem Dn.more {p q : List (List (List Int))} (h : Dn A B k t m p) (hk : ∀ x ∈ p, x ∈ q) : Dn A B k t m q := ⟨h.dn, h.wt, h.nr, fun d' ha => by
  obtain ⟨i, F, last, now', h1, h2, h3⟩ := h.nw d' ha
  exact ⟨i, F, last, now', hk _ h1, h2, h3⟩⟩
theorem HInv.mono {k' : Nat} {now : List (List Int)} {maybe : List (List (List Int))} (h : HInv A B k t m now maybe) (hk : k ≤ k') : HInv A B k' t m now maybe := ⟨h.1.mono hk, by
  rcases h.2 with h2 | h2
  · exact .inl h2
  · exact .inr (h2.mono hk)⟩
theorem kp_len (ok : m.Ok) (j : Nat) : (kp m.d j).length = 64 := by
  unfold kp
  rw [List.getD_eq_getElem?_getD]
  by_cases hn : j < m.d.cells.length
  · rw [List.getElem?_eq_getElem hn]; exact (ok.d.c _ (List.getElem_mem hn)).k
  · rw [List.getElem?_eq_none (by omega)]; rfl
theorem anew_inv {now : List (List Int)} {maybe : List (List (List Int))} (h : HInv A B k t m now maybe) (hk : k < 10000) (ks : List Int) :
    let m' : Mp := { m with d := m.d.restart ks }
    m'.Ok ∧ BD m'.d ∧ m'.Sm (5000 * k) ∧ (jStand m' 0 1).bodies ∈ now :: maybe ∧ HInv A B k (jOpen m' 0 1) m' (jStand m' 0 1).bodies [] := by
  intro m'
  obtain ⟨hu, hs⟩ := h
  have hwt : Wt m.d := by rcases hs with ⟨h, _⟩ | h; exact h.wt; exact h.wt
  have ha := restart_anew hwt (kp_len hu.ok) ks
  have hok : m'.Ok := ⟨Dv.restart_ok hu.ok.d ks, by show ∀ x ∈ m.spans, _ ≤ (m.d.restart ks).cells.length; rw [ha.len]; exact hu.ok.s, hu.ok.n⟩
  have hbd : BD m'.d := restart_bd hu.bd ks
  have hsm : m'.Sm (5000 * k) := ⟨by show (m.d.restart ks).done.length ≤ _; rw [ha.w]; simp, hu.sm.2⟩
  have h2 : Two m' A B := two_of hu.wd.two rfl ha.len
  have hpos : ∃ i F last now', now' ∈ now :: maybe ∧ Jst m'.d A B i F last now' ∧ last ≤ k := by
    rcases hs with ⟨hup, rfl⟩ | hdn
    · obtain ⟨F, hj, _⟩ := hup.st
      have hkp : ∀ j, kp m'.d j = kp m.d j := fun j => ha.n j (by rw [hup.done]; simp [keys])
      exact ⟨t.now, F, t.last, now, by simp, jst_ers hj (bk_eq fun y _ => hkp _) (by rw [bk_eq (d' := m'.d) (d := m.d) fun y _ => hkp _]; exact ers_self), hu.lk⟩
    · exact hdn.nw _ ha
  obtain ⟨i, F, last, now', p1, p2, p3⟩ := hpos
  obtain ⟨o1, o2⟩ := jst_open h2 ha.s p2
  rw [o1, o2]
  refine ⟨hok, hbd, hsm, p1, ⟨⟨h2, fun j => by show wr (m.d.restart ks) j ≤ _; rw [ha.wr]; exact hu.wd.wear j, ha.m.trans hu.wd.most⟩, hok, ⟨p2.i01, by show last ≤ _; have := hu.lk; have := hu.jok.l; omega, by show (0 : Int) ≤ 0 ∧ (0 : Int) ≤ _; omega⟩, ⟨rfl, rfl⟩, hsm, hbd, p3, p2.i01⟩, .inl ⟨⟨ha.up, ha.w, ha.s, F, p2, fun h => by cases h⟩, rfl⟩⟩
theorem fGet_by (h : ∀ s ∈ ss, By s) : By (fGet ss).body := by
  unfold fGet
  match ss, h with
  | [], h => exact fun x hx => by cases hx
  | s :: r, h =>
    simp only
    split
    · exact fun x hx => by cases hx
    split
    · exact fun x hx => by cases hx
    · show By (fBody (s :: r) s)
      unfold fBody
      refine by_take (by_drop ?_ _) _
      intro x hx
      unfold plainS at hx
      obtain ⟨y, hy, hx⟩ := List.mem_flatMap.1 hx
      exact h y (List.mem_of_mem_take hy) x (List.mem_of_mem_take hx)
theorem go_by : ∀ (n want : Nat) (ss : List (List Int)) (out : Row), (∀ s ∈ ss, By s) → (∀ b ∈ out.bodies, By b) → ∀ b ∈ (standsGo n want ss out).bodies, By b
  | 0, _, _, out, _, ho => ho
  | n + 1, want, ss, out, hs, ho => by
    show ∀ b ∈ (if stStop want (fGet ss) out then out else standsGo n 2 (ss.drop (fGet ss).many) (stNext want (fGet ss) out)).bodies, By b
    split
    · exact ho
    · refine go_by n 2 _ _ (fun s hx => hs s (List.mem_of_mem_drop hx)) ?_
      intro b hb
      have hb : b ∈ out.bodies ++ [(fGet ss).body] := hb
      rcases List.mem_append.1 hb with hb | hb
      · exact ho b hb
      · have : b = (fGet ss).body := by simpa using hb
        rw [this]; exact fGet_by hs
theorem stand_by {a b : Int} (h : BD m.d) : ∀ x ∈ (jStand m a b).bodies, By x := by
  unfold jStand
  split
  · exact go_by _ _ _ _ (secs_by h) (fun b hb => by cases hb)
  · exact go_by _ _ _ _ (secs_by h) (fun b hb => by cases hb)
theorem go_blen : ∀ (n want : Nat) (ss : List (List Int)) (out : Row), (standsGo n want ss out).bodies.length ≤ out.bodies.length + n
  | 0, _, _, out => Nat.le_refl _
  | n + 1, want, ss, out => by
    show (if stStop want (fGet ss) out then out else standsGo n 2 (ss.drop (fGet ss).many) (stNext want (fGet ss) out)).bodies.length ≤ _
    split
    · omega
    · have := go_blen n 2 (ss.drop (fGet ss).many) (stNext want (fGet ss) out)
      have e : (stNext want (fGet ss) out).bodies.length = out.bodies.length + 1 := by show (out.bodies ++ [_]).length = _; simp
      omega
theorem stand_len (h2 : Two m A B) (hA : A ≤ 30) (hB : B ≤ 30) : (jStand m 0 1).bodies.length ≤ 31 := by
  have h : ∀ b, Bit b → (fStands (m.secs b)).bodies.length ≤ 31 := fun b hb => by
    have := go_blen ((m.secs b).length + 1) 1 (m.secs b) row0
    rw [secs_len, two_size h2 hb] at this
    have e : siz A B b ≤ 30 := by rcases hb with rfl | rfl <;> assumption
    unfold fStands
    rw [secs_len, two_size h2 hb]
    have e0 : row0.bodies.length = 0 := rfl
    omega
  unfold jStand
  split
  · exact h 0 (.inl rfl)
  · exact h 1 (.inr rfl)
end J
