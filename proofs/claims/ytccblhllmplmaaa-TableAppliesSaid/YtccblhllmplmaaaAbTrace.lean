import Derived.Test.YtccblhllmplmaaaAbCode
namespace Go.Ab
open Go

theorem updO_comm {h : Nat → Option Obj} {A A' B B' : Heap} (hd : ∀ id, A'.getO id = A.getO id ∨ B'.getO id = B.getO id) : updO (updO h A A') B B' = updO (updO h B B') A A' := by
  funext id
  unfold updO
  rcases hd id with e | e
  · by_cases e2 : B'.getO id = B.getO id
    · simp [e, e2]
    · simp [e, e2]
  · by_cases e2 : A'.getO id = A.getO id
    · simp [e, e2]
    · simp [e, e2]

theorem nth_put_ne {T : List Value} {d : Option Tmp} {v : Value} {t : Nat} (h : d ≠ some t) : nth (putT T d v) t = nth T t := by
  cases d with
  | none => rfl
  | some d =>
    show nth (setN T d v) t = _
    have hne : d ≠ t := fun e => h (by rw [e])
    rw [setN_eq, nth_eq, nth_eq, List.getD_eq_getElem?_getD, List.getD_eq_getElem?_getD, List.getElem?_set_ne hne]
theorem nth_put_congr {A C : List Value} {d : Option Tmp} {v : Value} {t : Nat} (h : nth A t = nth C t) (hl : A.length = C.length) : nth (putT A d v) t = nth (putT C d v) t := by
  by_cases hd : d = some t
  · subst hd
    show nth (setN A t v) t = nth (setN C t v) t
    rw [setN_eq, setN_eq, nth_eq, nth_eq, List.getD_eq_getElem?_getD, List.getD_eq_getElem?_getD]
    by_cases ht : t < A.length
    · rw [List.getElem?_set_self ht, List.getElem?_set_self (by omega)]
    · rw [List.getElem?_eq_none (by simp; omega), List.getElem?_eq_none (by simp; omega)]
  · rw [nth_put_ne hd, nth_put_ne hd, h]
theorem put_length {T : List Value} {d : Option Tmp} {v : Value} : (putT T d v).length = T.length := by
  cases d with
  | none => rfl
  | some d => show (setN T d v).length = _; rw [setN_eq, List.length_set]
theorem put_comm {T : List Value} {d e : Option Tmp} {v u : Value} (h : ∀ x, d = some x → e ≠ some x) : putT (putT T d v) e u = putT (putT T e u) d v := by
  cases d with
  | none => rfl
  | some d =>
    cases e with
    | none => rfl
    | some e =>
      show setN (setN T d v) e u = setN (setN T e u) d v
      rw [setN_eq, setN_eq, setN_eq, setN_eq]
      exact List.set_comm _ _ fun he => h d rfl (by rw [he])

/-- an operation of a region, as the text's order meets it -/
structure En where
  o : Oper
  p : Plan
  T : List Value
  H : Heap
  v : Value
  H' : Heap
  w : Bool
noncomputable def En.rec' (e : En) : Rec := mkRec e.o e.p e.T e.H e.H'

noncomputable def TS (S : Nat → Bool) : List Value → List En → List Value
  | T, [] => T
  | T, e :: r => TS S (if S e.p.ix then putT T e.o.dst e.v else T) r
noncomputable def HSf (S : Nat → Bool) : (Nat → Option Obj) → List En → (Nat → Option Obj)
  | h, [] => h
  | h, e :: r => HSf S (if S e.p.ix then updO h e.H e.H' else h) r
noncomputable def Chain : List Value → Heap → List En → List Value → Heap → Prop
  | T, H, [], T', H' => T = T' ∧ H = H'
  | T, H, e :: r, T', H' => e.T = T ∧ e.H = H ∧ Chain (putT T e.o.dst e.v) e.H' r T' H'

theorem TS_append (S : Nat → Bool) (a b : List En) : ∀ T, TS S T (a ++ b) = TS S (TS S T a) b := by
  induction a with
  | nil => intro T; rfl
  | cons e r ih => intro T; exact ih _
theorem HSf_append (S : Nat → Bool) (a b : List En) : ∀ h, HSf S h (a ++ b) = HSf S (HSf S h a) b := by
  induction a with
  | nil => intro T; rfl
  | cons e r ih => intro T; exact ih _
theorem Chain.split {T T' : List Value} {H H' : Heap} {a : List En} {e : En} {b : List En} (c : Chain T H (a ++ e :: b) T' H') : Chain T H a e.T e.H ∧ Chain (putT e.T e.o.dst e.v) e.H' b T' H' := by
  induction a generalizing T H with
  | nil => obtain ⟨h1, h2, h3⟩ := c; subst h1; subst h2; exact ⟨⟨rfl, rfl⟩, h3⟩
  | cons x r ih => obtain ⟨h1, h2, h3⟩ := c; obtain ⟨i1, i2⟩ := ih h3; exact ⟨⟨h1, h2, i1⟩, i2⟩

theorem HS_pre {S : Nat → Bool} {id : Nat} : ∀ {pre : List En} {T T' : List Value} {H H' : Heap} {h : Nat → Option Obj}, Chain T H pre T' H' → (∀ k ∈ pre, S k.p.ix = false → k.H'.getO id = k.H.getO id) → (∀ b, H.getO id = some b → h id = some b) →
    ∀ b, H'.getO id = some b → HSf S h pre id = some b
  | [], _, _, _, _, _, c, _, h0, b, hb => by obtain ⟨_, rfl⟩ := c; exact h0 b hb
  | e :: r, T, T', H, H', h, c, hn, h0, b, hb => by
    obtain ⟨rfl, rfl, c⟩ := c
    show HSf S (if S e.p.ix then updO h e.H e.H' else h) r id = some b
    refine HS_pre c (fun k hk => hn k (by simp [hk])) (fun b hb => ?_) b hb
    by_cases hS : S e.p.ix = true
    · simp only [hS, if_true]
      unfold updO
      split
      · rename_i he; exact h0 b (he ▸ hb)
      · exact hb
    · have hS : S e.p.ix = false := by simpa using hS
      simp only [hS, Bool.false_eq_true, if_false]
      exact h0 b ((hn e (by simp) hS) ▸ hb)
theorem HS_post {S : Nat → Bool} {id : Nat} : ∀ {post : List En} {h : Nat → Option Obj}, (∀ k ∈ post, S k.p.ix = true → k.H'.getO id = k.H.getO id) → HSf S h post id = h id
  | [], _, _ => rfl
  | e :: r, h, hn => by
    show HSf S (if S e.p.ix then updO h e.H e.H' else h) r id = h id
    rw [HS_post (fun k hk => hn k (by simp [hk]))]
    split
    · rename_i hS; unfold updO; rw [if_pos (hn e (by simp) hS)]
    · rfl
theorem HS_agree {S : Nat → Bool} {id : Nat} {pre post : List En} {j : En} {T T' : List Value} {H H' : Heap} {h : Nat → Option Obj} (c : Chain T H (pre ++ j :: post) T' H') (hj : S j.p.ix = false)
    (h1 : ∀ k ∈ pre, S k.p.ix = false → k.H'.getO id = k.H.getO id) (h2 : ∀ k ∈ post, S k.p.ix = true → k.H'.getO id = k.H.getO id) (h0 : ∀ b, H.getO id = some b → h id = some b) :
    ∀ b, j.H.getO id = some b → HSf S h (pre ++ j :: post) id = some b := by
  intro b hb
  rw [HSf_append]
  show HSf S (if S j.p.ix then updO _ j.H j.H' else HSf S h pre) post id = some b
  rw [HS_post h2]
  simp only [hj, Bool.false_eq_true, if_false]
  exact HS_pre c.split.1 h1 h0 b hb

theorem HS_comm {S : Nat → Bool} {A A' : Heap} : ∀ {post : List En} {h : Nat → Option Obj}, (∀ k ∈ post, S k.p.ix = true → ∀ id, A'.getO id = A.getO id ∨ k.H'.getO id = k.H.getO id) → HSf S (updO h A A') post = updO (HSf S h post) A A'
  | [], _, _ => rfl
  | e :: r, h, hn => by
    show HSf S (if S e.p.ix then updO (updO h A A') e.H e.H' else updO h A A') r = updO (HSf S (if S e.p.ix then updO h e.H e.H' else h) r) A A'
    have ih := fun h => HS_comm (S := S) (A := A) (A' := A') (post := r) (h := h) (fun k hk => hn k (by simp [hk]))
    split
    · rename_i hS
      rw [updO_comm (hn e (by simp) hS), ih]
    · exact ih h
theorem HS_same {S S' : Nat → Bool} : ∀ {l : List En} {h : Nat → Option Obj}, (∀ k ∈ l, S' k.p.ix = S k.p.ix) → HSf S' h l = HSf S h l
  | [], _, _ => rfl
  | e :: r, h, hn => by
    show HSf S' (if S' e.p.ix then _ else _) r = HSf S (if S e.p.ix then _ else _) r
    rw [hn e (by simp), HS_same (fun k hk => hn k (by simp [hk]))]
theorem HS_insert {S S' : Nat → Bool} {pre post : List En} {j : En} {h : Nat → Option Obj} (hj : S j.p.ix = false) (hj' : S' j.p.ix = true) (hs : ∀ k ∈ pre ++ post, S' k.p.ix = S k.p.ix)
    (hn : ∀ k ∈ post, S k.p.ix = true → ∀ id, j.H'.getO id = j.H.getO id ∨ k.H'.getO id = k.H.getO id) : HSf S' h (pre ++ j :: post) = updO (HSf S h (pre ++ j :: post)) j.H j.H' := by
  rw [HSf_append, HSf_append]
  show HSf S' (if S' j.p.ix then updO (HSf S' h pre) j.H j.H' else _) post = updO (HSf S (if S j.p.ix then _ else HSf S h pre) post) j.H j.H'
  simp only [hj, hj', if_true, Bool.false_eq_true, if_false]
  rw [HS_same (l := pre) (fun k hk => hs k (by simp [hk])), HS_same (l := post) (fun k hk => hs k (by simp [hk])), HS_comm hn]

theorem TS_pre {S : Nat → Bool} {t : Nat} : ∀ {pre : List En} {T T' A : List Value} {H H' : Heap}, Chain T H pre T' H' → (∀ k ∈ pre, S k.p.ix = false → k.o.dst ≠ some t) → nth A t = nth T t → A.length = T.length →
    nth (TS S A pre) t = nth T' t ∧ (TS S A pre).length = T'.length
  | [], _, _, _, _, _, c, _, h0, hl => by obtain ⟨rfl, _⟩ := c; exact ⟨h0, hl⟩
  | e :: r, T, T', A, H, H', c, hn, h0, hl => by
    obtain ⟨rfl, rfl, c⟩ := c
    show nth (TS S (if S e.p.ix then putT A e.o.dst e.v else A) r) t = nth T' t ∧ (TS S (if S e.p.ix then putT A e.o.dst e.v else A) r).length = _
    by_cases hS : S e.p.ix = true
    · simp only [hS, if_true]
      exact TS_pre c (fun k hk => hn k (by simp [hk])) (nth_put_congr h0 hl) (by rw [put_length, put_length, hl])
    · have hS : S e.p.ix = false := by simpa using hS
      simp only [hS, Bool.false_eq_true, if_false]
      exact TS_pre c (fun k hk => hn k (by simp [hk])) (by rw [nth_put_ne (hn e (by simp) hS), h0]) (by rw [put_length, hl])
theorem TS_post {S : Nat → Bool} {t : Nat} : ∀ {post : List En} {A : List Value}, (∀ k ∈ post, S k.p.ix = true → k.o.dst ≠ some t) → nth (TS S A post) t = nth A t
  | [], _, _ => rfl
  | e :: r, A, hn => by
    show nth (TS S (if S e.p.ix then putT A e.o.dst e.v else A) r) t = nth A t
    rw [TS_post (fun k hk => hn k (by simp [hk]))]
    split
    · rename_i hS; exact nth_put_ne (hn e (by simp) hS)
    · rfl
theorem TS_agree {S : Nat → Bool} {t : Nat} {pre post : List En} {j : En} {T T' : List Value} {H H' : Heap} (c : Chain T H (pre ++ j :: post) T' H') (hj : S j.p.ix = false)
    (h1 : ∀ k ∈ pre, S k.p.ix = false → k.o.dst ≠ some t) (h2 : ∀ k ∈ post, S k.p.ix = true → k.o.dst ≠ some t) : nth (TS S T (pre ++ j :: post)) t = nth j.T t := by
  rw [TS_append]
  show nth (TS S (if S j.p.ix then _ else TS S T pre) post) t = _
  rw [TS_post h2]
  simp only [hj, Bool.false_eq_true, if_false]
  exact (TS_pre c.split.1 h1 rfl rfl).1
theorem TS_comm {S : Nat → Bool} {d : Option Tmp} {v : Value} : ∀ {post : List En} {A : List Value}, (∀ k ∈ post, S k.p.ix = true → ∀ x, d = some x → k.o.dst ≠ some x) → TS S (putT A d v) post = putT (TS S A post) d v
  | [], _, _ => rfl
  | e :: r, A, hn => by
    show TS S (if S e.p.ix then putT (putT A d v) e.o.dst e.v else putT A d v) r = putT (TS S (if S e.p.ix then putT A e.o.dst e.v else A) r) d v
    have ih := fun A => TS_comm (S := S) (d := d) (v := v) (post := r) (A := A) (fun k hk => hn k (by simp [hk]))
    split
    · rename_i hS
      rw [put_comm (hn e (by simp) hS), ih]
    · exact ih A
theorem TS_same {S S' : Nat → Bool} : ∀ {l : List En} {A : List Value}, (∀ k ∈ l, S' k.p.ix = S k.p.ix) → TS S' A l = TS S A l
  | [], _, _ => rfl
  | e :: r, A, hn => by
    show TS S' (if S' e.p.ix then _ else _) r = TS S (if S e.p.ix then _ else _) r
    rw [hn e (by simp), TS_same (fun k hk => hn k (by simp [hk]))]
theorem TS_insert {S S' : Nat → Bool} {pre post : List En} {j : En} {T : List Value} (hj : S j.p.ix = false) (hj' : S' j.p.ix = true) (hs : ∀ k ∈ pre ++ post, S' k.p.ix = S k.p.ix)
    (hn : ∀ k ∈ post, S k.p.ix = true → ∀ x, j.o.dst = some x → k.o.dst ≠ some x) : TS S' T (pre ++ j :: post) = putT (TS S T (pre ++ j :: post)) j.o.dst j.v := by
  rw [TS_append, TS_append]
  show TS S' (if S' j.p.ix then putT (TS S' T pre) j.o.dst j.v else _) post = putT (TS S (if S j.p.ix then _ else TS S T pre) post) j.o.dst j.v
  simp only [hj, hj', if_true, Bool.false_eq_true, if_false]
  rw [TS_same (l := pre) (fun k hk => hs k (by simp [hk])), TS_same (l := post) (fun k hk => hs k (by simp [hk])), TS_comm hn]

/-! masks -/
theorem bitB_eq (m i : Nat) : bitB m i = m.testBit i := by
  have h1 : Nat.land (Nat.shiftRight m i) 1 = (m >>> i) % 2 := Nat.and_one_is_mod (m >>> i)
  unfold bitB
  rw [h1, Nat.testBit_eq_decide_div_mod_eq, Nat.shiftRight_eq_div_pow]
  cases h : Nat.beq (m / 2 ^ i % 2) 1 with
  | true => simp [Nat.eq_of_beq_eq_true h]
  | false => simp [Nat.ne_of_beq_eq_false h]

/-- nothing in S waits for something that isn't -/
def Down (all : List Oper) (S : Nat → Bool) : Prop := ∀ (i : Nat) (o : Oper), all[i]? = some o → S i = true → ∀ e ∈ o.after.toList, Region.binds .any e = true → S e.on = true

theorem maskOf_spec (ms : List Nat) (o : Oper) (k : Nat) (hk : bitB (maskOf ms o) k = true) : ∃ e ∈ o.after.toList, Region.binds .any e = true ∧ (k = e.on ∨ ∃ m, ms[e.on]? = some m ∧ bitB m k = true) := by
  unfold maskOf at hk
  have gen : ∀ (l : List Edge) (s : Nat), bitB (l.foldl (fun s e => match Region.binds .any e with
      | true => Nat.lor s (Nat.lor (Nat.shiftLeft 1 e.on) (match atN ms e.on with | some m => m | none => 0))
      | false => s) s) k = true → bitB s k = true ∨ ∃ e ∈ l, Region.binds .any e = true ∧ (k = e.on ∨ ∃ m, ms[e.on]? = some m ∧ bitB m k = true) := by
    intro l
    induction l with
    | nil => intro s h; exact .inl h
    | cons e r ih =>
      intro s h
      rcases ih _ h with h | ⟨e', h1, h2⟩
      · simp only at h
        cases hb : Region.binds .any e with
        | false => rw [hb] at h; exact .inl h
        | true =>
          rw [hb] at h
          simp only [bitB_eq] at h
          rw [show ∀ a b : Nat, Nat.lor a b = a ||| b from fun _ _ => rfl, show ∀ a b : Nat, Nat.lor a b = a ||| b from fun _ _ => rfl, Nat.testBit_or, Nat.testBit_or] at h
          simp only [Bool.or_eq_true] at h
          rcases h with h | h | h
          · left; rw [bitB_eq]; exact h
          · right
            refine ⟨e, by simp, hb, .inl ?_⟩
            have : Nat.shiftLeft 1 e.on = 1 <<< e.on := rfl
            rw [this, Nat.testBit_shiftLeft] at h
            simp only [Bool.and_eq_true, decide_eq_true_eq] at h
            obtain ⟨g1, g2⟩ := h
            have : k - e.on = 0 := by
              rcases Nat.eq_zero_or_pos (k - e.on) with h0 | h0
              · exact h0
              · rw [Nat.testBit_one_eq_true_iff_self_eq_zero] at g2; exact g2
            omega
          · right
            refine ⟨e, by simp, hb, .inr ?_⟩
            rw [atN_eq] at h
            cases hm : ms[e.on]? with
            | none => rw [hm] at h; simp at h
            | some m => rw [hm] at h; exact ⟨m, rfl, by rw [bitB_eq]; exact h⟩
      · exact .inr ⟨e', by simp [h1], h2⟩
  rcases gen _ _ hk with h | h
  · rw [bitB_eq] at h; simp at h
  · exact h

/-- a mask's bits come ahead -/
def MaskOk (all : List Oper) (i m : Nat) : Prop := ∀ S, Down all S → ∀ k, bitB m k = true → ∃ o, all[i]? = some o ∧ ((∀ e ∈ o.after.toList, Region.binds .any e = true → S e.on = true) → S k = true)

theorem masks_ok (all : List Oper) : ∀ (l : List Oper) (ms : List Nat), all.drop ms.length = l → (∀ i m, ms[i]? = some m → MaskOk all i m) → ∀ i m, (masksFrom ms l)[i]? = some m → MaskOk all i m
  | [], ms, _, hm, i, m, h => hm i m h
  | o :: l, ms, hl, hm, i, m, h => by
    have ho : all[ms.length]? = some o := by
      have : (all.drop ms.length)[0]? = some o := by rw [hl]; rfl
      simpa using this
    refine masks_ok all l (appN ms [maskOf ms o]) ?_ ?_ i m h
    · rw [appN_eq, List.length_append]
      have : (all.drop ms.length).drop 1 = l := by rw [hl]; rfl
      rwa [List.drop_drop] at this
    · intro j q hq
      rw [appN_eq] at hq
      by_cases hj : j < ms.length
      · rw [List.getElem?_append_left hj] at hq; exact hm j q hq
      · rw [List.getElem?_append_right (by omega)] at hq
        have : j - ms.length = 0 := by
          rcases Nat.eq_zero_or_pos (j - ms.length) with h0 | h0
          · exact h0
          · rw [List.getElem?_eq_none (by simp; omega)] at hq; cases hq
        rw [this] at hq
        simp at hq
        subst hq
        obtain rfl : j = ms.length := by omega
        intro S hS k hk
        refine ⟨o, ho, fun hd => ?_⟩
        obtain ⟨e, he, hb, hc⟩ := maskOf_spec ms o k hk
        rcases hc with rfl | ⟨m', hm', hbit⟩
        · exact hd e he hb
        · obtain ⟨o', ho', hs'⟩ := hm e.on m' hm' S hS k hbit
          exact hs' (fun e' he' hb' => hS e.on o' ho' (hd e he hb) e' he' hb')

theorem zip_spec : ∀ (l : List Oper) (ms : List Nat) (i j : Nat) (x : Oper × Nat × Nat), (zipFrom i l ms)[j]? = some x → l[j]? = some x.1 ∧ x.2.1 = i + j ∧ ms[j]? = some x.2.2
  | [], _, i, j, x, h => by simp [zipFrom] at h
  | o :: r, [], i, j, x, h => by simp [zipFrom] at h
  | o :: r, m :: ms, i, j, x, h => by
    cases j with
    | zero => simp [zipFrom] at h; subst h; exact ⟨rfl, rfl, rfl⟩
    | succ j =>
      have h' : (zipFrom (Nat.succ i) r ms)[j]? = some x := by simpa [zipFrom] using h
      obtain ⟨h1, h2, h3⟩ := zip_spec r ms _ j x h'
      exact ⟨by simpa using h1, by omega, by simpa using h3⟩
theorem masksFrom_length (l : List Oper) : ∀ ms, (masksFrom ms l).length = ms.length + l.length := by
  induction l with
  | nil => intro ms; rfl
  | cons o r ih => intro ms; show (masksFrom (appN ms [maskOf ms o]) r).length = _; rw [ih, appN_eq]; simp; omega
theorem zip_length : ∀ (l : List Oper) (ms : List Nat) (i : Nat), l.length = ms.length → (zipFrom i l ms).length = l.length
  | [], [], _, _ => rfl
  | o :: r, m :: ms, i, h => by simp [zipFrom, zip_length r ms _ (by simpa using h)]
theorem placed_length (l : List Oper) : (placed l).length = l.length := zip_length _ _ _ (by rw [masks, masksFrom_length]; simp)
theorem placed_spec (l : List Oper) (j : Nat) (x : Oper × Nat × Nat) (h : (placed l)[j]? = some x) : l[j]? = some x.1 ∧ x.2.1 = j ∧ MaskOk l j x.2.2 := by
  obtain ⟨h1, h2, h3⟩ := zip_spec _ _ _ _ _ h
  refine ⟨h1, by omega, masks_ok l l [] (by simp) (by simp) j _ h3⟩
section
variable {P : Program} {H : Heap}
theorem stepC_congr {me : Self} {op : Op} {T T' : List Value} (h : ∀ x ∈ op.operands.toList, (evC x).g T = (evC x).g T') : (stepC P op).f me T H = (stepC P op).f me T' H := by
  unfold stepC
  split
  · unfold stepC0
    split
    · rename_i c
      split
      · exact opC_congr h
      · rename_i f hc
        simp only
        rw [h f (by simp [Op.operands, Call.operands, hc]), evs_map, evs_map, List.map_congr_left fun z hz => h z (by simp [Op.operands, Call.operands]; exact .inr (by simpa using hz))]
      · rename_i r name hc
        simp only
        rw [h r (by simp [Op.operands, Call.operands, hc]), evs_map, evs_map, List.map_congr_left fun z hz => h z (by simp [Op.operands, Call.operands]; exact .inr (by simpa using hz))]
    · exact opC_congr h
  · rfl
end
end Go.Ab
