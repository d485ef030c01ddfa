import Derived.Test.YtccblhllmplmaaaAbWp
namespace Go.Ab
open Go
set_option linter.unusedVariables false
set_option linter.unusedSectionVars false

theorem bit_or (a b i : Nat) : bitB (Nat.lor a b) i = (bitB a i || bitB b i) := by
  rw [bitB_eq, bitB_eq, bitB_eq, show Nat.lor a b = a ||| b from rfl, Nat.testBit_or]
theorem bit_one (t i : Nat) : bitB (Nat.shiftLeft 1 t) i = decide (t = i) := by
  rw [bitB_eq, show Nat.shiftLeft 1 t = 1 <<< t from rfl, Nat.testBit_shiftLeft]
  by_cases h : t = i
  · subst h; simp
  · simp only [h, decide_false]
    by_cases h2 : i ≥ t
    · have h3 : i - t ≠ 0 := by omega
      have : Nat.testBit 1 (i - t) = false := by
        cases hb : Nat.testBit 1 (i - t) with
        | false => rfl
        | true => rw [Nat.testBit_one_eq_true_iff_self_eq_zero] at hb; exact absurd hb h3
      rw [this]; simp
    · simp [h2]
theorem bit_clr (m d i : Nat) : bitB (clr m d) i = (bitB m i && decide (d ≠ i)) := by
  unfold clr
  cases hb : bitB m d with
  | true =>
    simp only [cond_true]
    rw [bitB_eq, show Nat.xor m (Nat.shiftLeft 1 d) = m ^^^ (1 <<< d) from rfl, Nat.testBit_xor, ← bitB_eq, ← bitB_eq, show (1 <<< d) = Nat.shiftLeft 1 d from rfl, bit_one]
    by_cases h : d = i
    · subst h; simp [hb]
    · simp [h]
  | false =>
    simp only [cond_false]
    by_cases h : d = i
    · subst h; simp [hb]
    · simp [h]

def Agree (m : Nat) (ρ : Env) (T : List Value) : Prop := ∀ i, bitB m i = true → nth T i = ρ i
theorem Agree.or {a b : Nat} {ρ : Env} {T : List Value} (h : Agree (Nat.lor a b) ρ T) : Agree a ρ T ∧ Agree b ρ T :=
  ⟨fun i hi => h i (by rw [bit_or, hi]; rfl), fun i hi => h i (by rw [bit_or, hi, Bool.or_true])⟩
theorem Agree.of_or {a b : Nat} {ρ : Env} {T : List Value} (h : Agree a ρ T) (g : Agree b ρ T) : Agree (Nat.lor a b) ρ T := fun i hi => by
  rw [bit_or, Bool.or_eq_true] at hi
  rcases hi with hi | hi
  · exact h i hi
  · exact g i hi

theorem nth_set {T : List Value} {d i : Nat} {v : Value} (hd : d < T.length) : nth (setN T d v) i = if d = i then v else nth T i := by
  rw [setN_eq, nth_eq, nth_eq, List.getD_eq_getElem?_getD, List.getD_eq_getElem?_getD]
  by_cases h : d = i
  · subst h; rw [if_pos rfl, List.getElem?_set_self hd]; rfl
  · rw [if_neg h, List.getElem?_set_ne h]
theorem put_agree {m n : Nat} {ρ : Env} {T : List Value} {d : Option Tmp} {v : Value} (hl : T.length = n) (hd : dstOk n d = true) (h : Agree (clrO m d) ρ T) : Agree m (put ρ d v) (putT T d v) := by
  cases d with
  | none => exact h
  | some d =>
    have hd : d < T.length := by rw [hl]; have : Nat.blt d n = true := hd; rw [blt_eq] at this; exact of_decide_eq_true this
    intro i hi
    show nth (setN T d v) i = cond (Nat.beq i d) v (ρ i)
    rw [nth_set hd]
    by_cases he : d = i
    · subst he; rw [if_pos rfl, Nat.beq_refl]; rfl
    · rw [if_neg he]
      have : Nat.beq i d = false := by
        cases hc : Nat.beq i d with
        | false => rfl
        | true => exact absurd (Nat.eq_of_beq_eq_true hc).symm he
      rw [this]
      refine h i ?_
      show bitB (clr m d) i = true
      rw [bit_clr, hi]
      simpa using he
theorem putT_length {T : List Value} {d : Option Tmp} {v : Value} : (putT T d v).length = T.length := put_length

theorem evsE_map (l : List Operand) (ρ : Env) : evsE l ρ = l.map (ev · ρ) := by
  induction l with
  | nil => rfl
  | cons x r ih => show ev x ρ :: evsE r ρ = _; rw [ih]; rfl
theorem rdO_ok {x : Operand} {ρ : Env} {T : List Value} (h : Agree (rdO x) ρ T) : (evC x).g T = ev x ρ := by
  cases x with
  | tmp t => exact h t (by show bitB (Nat.shiftLeft 1 t) t = true; rw [bit_one]; simp)
  | _ => rfl
theorem rdL_ok {l : List Operand} {ρ : Env} {T : List Value} (h : Agree (rdL l) ρ T) : ∀ x ∈ l, (evC x).g T = ev x ρ := by
  induction l with
  | nil => simp
  | cons x r ih =>
    have h : Agree (Nat.lor (rdO x) (rdL r)) ρ T := h
    intro y hy
    rcases List.mem_cons.1 hy with rfl | hy
    · exact rdO_ok h.or.1
    · exact ih h.or.2 y hy
theorem evs_agree {l : List Operand} {ρ : Env} {T : List Value} (h : ∀ x ∈ l, (evC x).g T = ev x ρ) : evs l T = evsE l ρ := by
  rw [evs_map, evsE_map]; exact List.map_congr_left h
theorem evParts_agree {l : List (Nat × Operand)} {ρ : Env} {T : List Value} (h : ∀ p ∈ l, (evC p.2).g T = ev p.2 ρ) : evParts l T = evPartsE l ρ := by
  induction l with
  | nil => rfl
  | cons p r ih =>
    obtain ⟨i, o⟩ := p
    show (i, (evC o).g T) :: evParts r T = (i, ev o ρ) :: evPartsE r ρ
    rw [h (i, o) (by simp), ih fun q hq => h q (by simp [hq])]
theorem evO_agree {o : Option Operand} {ρ : Env} {T : List Value} (h : ∀ x, o = some x → (evC x).g T = ev x ρ) : evO o T = evOE o ρ := by
  cases o with
  | none => rfl
  | some x => show some _ = some _; rw [h x rfl]

section
variable {P : Program} [Orc]
theorem withH_opP {r : Option Value} {H : Heap} {K : Value → Heap → Prop} (h : opP r fun v => K v H) : ∃ v H', withH H r = some (v, H') ∧ K v H' := by
  obtain ⟨v, rfl, hk⟩ := h
  exact ⟨v, H, rfl, hk⟩
theorem wIf_bool {b : Bool} {A B : Prop} (h : wIf (.bool b) A B) : cond b A B := by
  cases b with
  | true => exact h.1 rfl
  | false => exact h.2.1 rfl
theorem wNew_some {cs : List Value} {H : Heap} {K : Value → Heap → Prop} (h : wNew cs H K) : ∃ v H', newRef cs H = some (v, H') ∧ K v H' := ⟨_, _, rfl, h⟩

theorem vcOp_ok {op : Op} {ρ : Env} {T : List Value} {H : Heap} {K : Value → Heap → Prop} (hop : ∀ x ∈ op.operands.toList, (evC x).g T = ev x ρ) (hnc : ∀ c, op = .call c → ∃ b, c.callee = .builtin b) (h : vcOp P op ρ H K) :
    ∃ v H', (opC P op).f T H = some (v, H') ∧ K v H' := by
  cases op <;> simp only [vcOp] at h <;> simp only [opC] <;> first | exact h.elim | skip
  case move x => exact ⟨_, _, by rw [hop x (by simp [Op.operands])], h⟩
  case assign x => exact ⟨_, _, by rw [hop x (by simp [Op.operands])], h⟩
  case pick c a b =>
    obtain ⟨v, hv, hk⟩ := h
    rw [hop c (by simp [Op.operands]), hop a (by simp [Op.operands]), hop b (by simp [Op.operands])]
    unfold pickA at hv
    split at hv
    · rename_i t he
      rw [he]
      cases t with
      | true => cases hv; exact ⟨_, _, rfl, hk⟩
      | false => cases hv; exact ⟨_, _, rfl, hk⟩
    · cases hv
  case alloc t =>
    cases hz : zeroB P t with
    | some z => rw [hz] at h; exact wNew_some h
    | none => rw [hz] at h; exact h.elim
  case box t x => rw [hop x (by simp [Op.operands])]; exact wNew_some h
  case build t parts =>
    rw [evParts_agree fun p hp => hop p.2 (by simp [Op.operands]; exact ⟨p.1, by simpa using hp⟩)]
    exact withH_opP h
  case buildSlice t len parts =>
    rw [evParts_agree fun p hp => hop p.2 (by simp [Op.operands]; exact ⟨p.1, by simpa using hp⟩)]
    exact h
  case load t a => rw [hop a (by simp [Op.operands])]; exact h
  case store t a x =>
    cases hz : sizeB P t with
    | some z => rw [hz] at h; simp only; rw [hop a (by simp [Op.operands]), hop x (by simp [Op.operands])]; exact h
    | none => rw [hz] at h; exact h.elim
  case nilCheck x => rw [hop x (by simp [Op.operands])]; exact withH_opP h
  case binOp o t x y z => rw [hop x (by simp [Op.operands]), hop y (by simp [Op.operands])]; exact withH_opP h
  case unOp o t x => rw [hop x (by simp [Op.operands])]; exact withH_opP h
  case convert s d x => rw [hop x (by simp [Op.operands])]; exact h
  case makeInterface t x =>
    cases hu : P.underlying t with
    | none => rw [hu] at h; exact h.elim
    | some td =>
      rw [hu] at h
      rw [← hop x (by simp [Op.operands])] at h
      cases td <;> first | exact h.elim | exact ⟨_, _, rfl, h⟩
  case makeFunc fn first cap =>
    cases fn <;> first | exact h.elim | skip
    simp only
    rw [evs_agree fun z hz => hop z (by simp [Op.operands]; exact .inl (by simpa using hz)), evs_agree fun z hz => hop z (by simp [Op.operands]; exact .inr (by simpa using hz))]
    exact ⟨_, _, rfl, h⟩
  case makeSlice t l c => rw [hop l (by simp [Op.operands]), hop c (by simp [Op.operands])]; exact h
  case slice t x lo hi mx =>
    rw [hop x (by simp [Op.operands]), evO_agree fun y e => hop y (by subst e; simp [Op.operands]), evO_agree fun y e => hop y (by subst e; simp [Op.operands]), evO_agree fun y e => hop y (by subst e; simp [Op.operands])]
    exact withH_opP h
  case fieldAddr s x f => rw [hop x (by simp [Op.operands])]; exact withH_opP h
  case field t x f => rw [hop x (by simp [Op.operands])]; exact withH_opP h
  case indexAddr t x i => rw [hop x (by simp [Op.operands]), hop i (by simp [Op.operands])]; exact withH_opP h
  case index t x i => rw [hop x (by simp [Op.operands]), hop i (by simp [Op.operands])]; exact withH_opP h
  case typeAssert x t a ok => rw [hop x (by simp [Op.operands])]; exact withH_opP h
  case extract x i =>
    rw [hop x (by simp [Op.operands])]
    obtain ⟨v, hv, hk⟩ := h
    unfold extA at hv
    split at hv
    · rename_i vs he; rw [he]; exact ⟨v, H, by simp only [hv]; rfl, hk⟩
    · cases hv
  case call c =>
    obtain ⟨b, hb⟩ := hnc c rfl
    rw [hb] at h ⊢
    simp only at h ⊢
    rw [evs_agree fun z hz => hop z (by simp [Op.operands, Call.operands]; exact .inr (by simpa using hz))]
    exact h

theorem wT_callOut {t : Tgt} {H : Heap} {K : Value → Heap → Prop} (h : wTgt P (some t) H K) : ∃ m v H', callOut (runO P m) (some t) H = some (v, H') ∧ K v H' := by
  cases t with
  | fn f args =>
    obtain ⟨n, ex, v, H', h1, h2⟩ := h
    refine ⟨n, v, H', ?_, h2⟩
    unfold callOut
    simp only [taskOf, h1]
  | yld l args =>
    obtain ⟨n, ex, v, H', h1, h2⟩ := h
    refine ⟨n, v, H', ?_, h2⟩
    unfold callOut
    simp only [taskOf, h1]
theorem wTgt_callOut {x : Option Tgt} {H : Heap} {K : Value → Heap → Prop} (h : wTgt P x H K) : ∃ m v H', callOut (runO P m) x H = some (v, H') ∧ K v H' := by
  cases x with
  | none => exact h.elim
  | some t => exact wT_callOut h

theorem vcStep_ok {op : Op} {ρ : Env} {T : List Value} {H : Heap} {K : Value → Heap → Prop} (hop : ∀ x ∈ op.operands.toList, (evC x).g T = ev x ρ) (h : vcStep P op ρ H K) :
    ∃ m v H', (stepC P op).f (runO P m) T H = some (v, H') ∧ K v H' := by
  unfold vcStep at h
  split at h
  case h_2 => exact h.elim
  case h_1 hok =>
  unfold stepC
  rw [hok]
  simp only
  unfold stepC0
  split
  · rename_i c
    split
    · rename_i b hb
      obtain ⟨v, H', h1, h2⟩ := vcOp_ok hop (fun c' e => by cases e; exact ⟨b, hb⟩) h
      exact ⟨0, v, H', h1, h2⟩
    · rename_i f hf
      simp only [vcOp, hf] at h
      simp only
      rw [hop f (by simp [Op.operands, Call.operands, hf]), evs_agree fun z hz => hop z (by simp [Op.operands, Call.operands]; exact .inr (by simpa using hz))]
      exact wTgt_callOut h
    · rename_i r name hf
      simp only [vcOp, hf] at h
      simp only
      rw [hop r (by simp [Op.operands, Call.operands, hf]), evs_agree fun z hz => hop z (by simp [Op.operands, Call.operands]; exact .inr (by simpa using hz))]
      exact wTgt_callOut h
  · rename_i hne
    obtain ⟨v, H', h1, h2⟩ := vcOp_ok hop (fun c e => absurd e (hne c)) h
    exact ⟨0, v, H', h1, h2⟩

/-! guards -/
def KnIs (T : List Value) (d : Nat) : Kn → Prop
  | .yes => nth T d = .bool true
  | .no => nth T d = .bool false
  | .undef => nth T d = Go.undef
  | .any => True
def KnOk (known : List (Nat × Kn)) (T : List Value) : Prop := ∀ d, KnIs T d (getK known d)
theorem getK_cons (x : Nat × Kn) (l : List (Nat × Kn)) (d : Nat) : getK (x :: l) d = if x.1 = d then x.2 else getK l d := by
  show cond (Nat.beq x.1 d) x.2 (getK l d) = _
  cases hb : Nat.beq x.1 d with
  | true => rw [if_pos (Nat.eq_of_beq_eq_true hb)]; rfl
  | false => rw [if_neg (Nat.ne_of_beq_eq_false hb)]; rfl
theorem KnOk.cons {known : List (Nat × Kn)} {T : List Value} (h : KnOk known T) {d : Nat} {k : Kn} (hk : KnIs T d k) : KnOk ((d, k) :: known) T := fun i => by
  rw [getK_cons]
  split
  · rename_i e; cases e; exact hk
  · exact h i
theorem KnOk.put {known : List (Nat × Kn)} {T : List Value} {n : Nat} (hl : T.length = n) {d : Option Tmp} (hd : dstOk n d = true) (h : KnOk known T) {v : Value} {k : Kn} (hk : ∀ T' x, nth T' x = v → KnIs T' x k) : KnOk (setK known d k) (putT T d v) := by
  cases d with
  | none => exact h
  | some d =>
    have hd : d < T.length := by rw [hl]; have : Nat.blt d n = true := hd; rw [blt_eq] at this; exact of_decide_eq_true this
    have same : nth (setN T d v) d = v := by rw [nth_set hd, if_pos rfl]
    intro i
    show KnIs (setN T d v) i (getK ((d, k) :: known) i)
    rw [getK_cons]
    split
    · rename_i e; cases e; exact hk _ _ same
    · rename_i e
      have e : ¬ d = i := e
      have hi := h i
      have e2 : nth (setN T d v) i = nth T i := by rw [nth_set hd, if_neg e]
      cases hg : getK known i <;> rw [hg] at hi <;> simp only [KnIs, e2] <;> exact hi

theorem knO_ok {known : List (Nat × Kn)} {T : List Value} (hk : KnOk known T) (x : Operand) : ∀ T' i, nth T' i = (evC x).g T → KnIs T' i (knO known x) := by
  intro T' i h
  cases x with
  | tmp t =>
    have := hk t
    have h : nth T' i = nth T t := h
    show KnIs T' i (getK known t)
    cases hg : getK known t <;> rw [hg] at this <;> simp only [KnIs] at this ⊢ <;> first | trivial | exact h.trans this
  | const v =>
    cases v <;> first | trivial | skip
    rename_i b
    cases b <;> exact h
  | _ => trivial
theorem knOp_ok {known : List (Nat × Kn)} {T : List Value} {m : Nat} {op : Op} {H H' : Heap} {v : Value} (hk : KnOk known T) (h : (stepC P op).f (runO P m) T H = some (v, H')) : ∀ T' i, nth T' i = v → KnIs T' i (knOp known op) := by
  intro T' i hv
  cases op <;> first | trivial | skip
  case move x =>
    unfold stepC at h
    split at h
    · cases h; exact knO_ok hk x T' i hv
    · cases h
  case assign x =>
    unfold stepC at h
    split at h
    · cases h; exact knO_ok hk x T' i hv
    · cases h
  case pick c a b =>
    unfold stepC at h
    split at h
    case h_2 => cases h
    case h_1 =>
    have h : (match (evC c).g T with | .bool t => (match t with | true => some ((evC a).g T, H) | false => some ((evC b).g T, H)) | _ => none) = some (v, H') := h
    have hc := knO_ok hk c [(evC c).g T] 0 rfl
    show KnIs T' i (match knO known c with | .yes => knO known a | .no => knO known b | _ => .any)
    cases hkc : knO known c with
    | yes =>
      rw [hkc] at hc
      rw [show (evC c).g T = .bool true from hc] at h
      cases h
      exact knO_ok hk a T' i hv
    | no =>
      rw [hkc] at hc
      rw [show (evC c).g T = .bool false from hc] at h
      cases h
      exact knO_ok hk b T' i hv
    | undef => trivial
    | any => trivial
theorem vcGuard_ok {n : Nat} {all : List Oper} {o : Oper} {A B : List (Nat × Kn) → Prop} {known : List (Nat × Kn)} {ρ : Env} {T : List Value} (hk : KnOk known T) (hag : Agree (rdG all o.guard) ρ T) (h : vcGuard n all o A B known ρ) :
    dstOk n o.dst = true ∧ (((wantedC all o.guard).f T = true ∧ ∃ kn, KnOk kn T ∧ A kn) ∨ ((wantedC all o.guard).f T = false ∧ ∃ kn, KnOk kn T ∧ B kn)) := by
  unfold vcGuard at h
  split at h
  case h_1 => exact h.elim
  case h_2 hd =>
  refine ⟨hd, ?_⟩
  cases hg : o.guard with
  | none =>
    rw [hg] at h
    exact .inl ⟨rfl, known, hk, h⟩
  | some jw =>
    obtain ⟨j, want⟩ := jw
    rw [hg] at h hag
    have hs : grdSlot all (some (j, want)) = some ((atN all j).bind (·.dst), want) := rfl
    rw [hs] at h
    simp only at h
    have ea : atN all j = all[j]? := atN_eq _ _
    cases hb : (all[j]?).bind (·.dst) with
    | none =>
      rw [ea, hb] at h
      have hw : (wantedC all (some (j, want))).f T = false := by unfold wantedC; simp only [hb]
      exact .inr ⟨hw, known, hk, h⟩
    | some d =>
      rw [ea, hb] at h
      simp only at h
      have hw : (wantedC all (some (j, want))).f T = (match nth T d with | .bool b => b == want | _ => false) := by unfold wantedC; simp only [hb]; rfl
      have hkd := hk d
      have hρ : nth T d = ρ d := hag d (by
        have : rdG all (some (j, want)) = Nat.shiftLeft 1 d := by unfold rdG; rw [hs, ea, hb]
        rw [this, bit_one]; simp)
      rw [hw]
      cases hgk : getK known d with
      | yes =>
        rw [hgk] at h hkd
        rw [show nth T d = .bool true from hkd]
        cases want with
        | true => exact .inl ⟨rfl, known, hk, h⟩
        | false => exact .inr ⟨rfl, known, hk, h⟩
      | no =>
        rw [hgk] at h hkd
        rw [show nth T d = .bool false from hkd]
        cases want with
        | true => exact .inr ⟨rfl, known, hk, h⟩
        | false => exact .inl ⟨rfl, known, hk, h⟩
      | undef =>
        rw [hgk] at h hkd
        rw [show nth T d = Go.undef from hkd]
        exact .inr ⟨rfl, known, hk, h⟩
      | any =>
        rw [hgk] at h
        rw [hρ]
        cases want with
        | true =>
          obtain ⟨h1, h2, t, ht⟩ := (show wIf (ρ d) (A ((d, .yes) :: known)) (B ((d, .no) :: known)) from h)
          rw [ht]
          cases t with
          | true => exact .inl ⟨rfl, _, hk.cons (d := d) (k := .yes) (show nth T d = .bool true from hρ.trans ht), h1 ht⟩
          | false => exact .inr ⟨rfl, _, hk.cons (d := d) (k := .no) (show nth T d = .bool false from hρ.trans ht), h2 ht⟩
        | false =>
          obtain ⟨h1, h2, t, ht⟩ := (show wIf (ρ d) (B ((d, .yes) :: known)) (A ((d, .no) :: known)) from h)
          rw [ht]
          cases t with
          | true => exact .inr ⟨rfl, _, hk.cons (d := d) (k := .yes) (show nth T d = .bool true from hρ.trans ht), h1 ht⟩
          | false => exact .inl ⟨rfl, _, hk.cons (d := d) (k := .no) (show nth T d = .bool false from hρ.trans ht), h2 ht⟩

theorem vcOps_ok {n N : Nat} {all : List Oper} {K : Env → Heap → Prop} : ∀ (l : List Oper) (known : List (Nat × Kn)) (ρ : Env) (T : List Value) (H : Heap), T.length = n → Agree (liveOps all l N) ρ T → KnOk known T → vcOps P n all l K known ρ H →
    ∃ m o, opsA P (runO P m) all l T H = some o ∧ o.ex = .normal ∧ o.T.length = n ∧ ∃ ρ', Agree N ρ' o.T ∧ K ρ' o.H
  | [], known, ρ, T, H, hl, ha, hk, h => ⟨0, _, rfl, rfl, hl, ρ, ha, h⟩
  | o :: l, known, ρ, T, H, hl, ha, hk, h => by
    have ha : Agree (Nat.lor (clrO (liveOps all l N) o.dst) (Nat.lor (rdL o.op.operands.toList) (rdG all o.guard))) ρ T := ha
    have h : vcGuard n all o (fun kn => vcStep P o.op ρ H fun v H' => vcOps P n all l K (setK kn o.dst (knOp kn o.op)) (put ρ o.dst v) H') (fun kn => vcOps P n all l K (setK kn o.dst .undef) (put ρ o.dst undef) H) known ρ := h
    obtain ⟨a1, a2⟩ := ha.or
    obtain ⟨a2, a3⟩ := a2.or
    obtain ⟨hd, hg⟩ := vcGuard_ok hk a3 h
    rcases hg with ⟨hw, kn, hkn, hA⟩ | ⟨hw, kn, hkn, hB⟩
    · obtain ⟨m1, v, H', h1, h2⟩ := vcStep_ok (rdL_ok a2) hA
      obtain ⟨m2, o2, g1, g2, g3, g4⟩ := vcOps_ok l _ _ _ _ (putT_length.trans hl) (put_agree hl hd a1) (hkn.put hl hd (k := knOp kn o.op) (knOp_ok hkn h1)) h2
      refine ⟨max m1 m2, o2, ?_, g2, g3, g4⟩
      show opF1 P (runO P (max m1 m2)) o ((wantedC all o.guard).f T) T H (opsA P (runO P (max m1 m2)) all l) = some o2
      rw [hw]
      unfold opF1
      simp only [stepC_le (run_le (Nat.le_max_left m1 m2)) h1]
      exact opsA_le (run_le (Nat.le_max_right m1 m2)) _ _ _ _ _ g1
    · obtain ⟨m2, o2, g1, g2, g3, g4⟩ := vcOps_ok l _ _ _ _ (putT_length.trans hl) (put_agree hl hd a1) (hkn.put hl hd (k := .undef) fun _ _ e => e) hB
      refine ⟨m2, o2, ?_, g2, g3, g4⟩
      show opF1 P (runO P m2) o ((wantedC all o.guard).f T) T H (opsA P (runO P m2) all l) = some o2
      rw [hw]
      exact g1

theorem compat_ok {k j : Rec} {X : Prop} (h : compatP k j X) : compat k j = true ∧ X := by
  unfold compatP at h
  unfold compat
  split at h
  · rename_i e; rw [e]; exact ⟨rfl, h⟩
  · rename_i e; rw [e]; simp only
    split at h
    · rename_i e2; rw [e2]; exact h
    · rename_i e2; rw [e2]; exact h
    · rename_i h3 h4
      refine ⟨?_, h⟩
      split
      · rename_i e2; exact absurd e2 h3
      · rename_i e2; exact absurd e2 h4
      · rfl
  · rename_i e; rw [e]; simp only
    split at h
    · rename_i e2; rw [e2]; exact ⟨rfl, h⟩
    · rename_i e2; rw [e2]; exact h
    · rename_i e2; rw [e2]; exact ⟨rfl, h⟩
    · rename_i e2; rw [e2]; exact h
    · exact h.elim
  · rename_i e; rw [e]; simp only
    split at h
    · rename_i e2; rw [e2]; exact ⟨rfl, h⟩
    · rename_i e2; rw [e2]; exact h
    · rename_i e2; rw [e2]; exact ⟨rfl, h⟩
    · exact h.elim
  · rename_i e; rw [e]; simp only
    split at h
    · rename_i e2; rw [e2]; exact ⟨rfl, h⟩
    · rename_i e2; rw [e2]; exact ⟨by simp only [Bool.and_eq_true]; exact ⟨h.1, h.2.1⟩, h.2.2⟩
    · rename_i e2; rw [e2]; exact ⟨rfl, h⟩
    · exact h.elim
  · exact h.elim
theorem fits_ok {p : Plan} {j : Rec} {rs : List Rec} {X : Prop} (h : fitsP p.mask j rs X) : fitsAll p j rs = true ∧ X := by
  unfold fitsP at h
  unfold fitsAll
  split at h
  · rename_i e; rw [e]; exact ⟨rfl, h⟩
  · rename_i hne
    have key : allN (fun k => bitB p.mask k.ix || compat k j) rs = true ∧ X := by
      clear hne
      rw [allN_eq, List.all_eq_true]
      induction rs with
      | nil => exact ⟨by simp, h⟩
      | cons k r ih =>
        have h : cond (bitB p.mask k.ix) (List.rec (motive := fun _ => Prop) X (fun k _ ih => cond (bitB p.mask k.ix) ih (compatP k j ih)) r) (compatP k j (List.rec (motive := fun _ => Prop) X (fun k _ ih => cond (bitB p.mask k.ix) ih (compatP k j ih)) r)) := h
        cases hb : bitB p.mask k.ix with
        | true =>
          rw [hb] at h
          obtain ⟨i1, i2⟩ := ih h
          refine ⟨fun x hx => ?_, i2⟩
          rcases List.mem_cons.1 hx with rfl | hx
          · simp [hb]
          · exact i1 x hx
        | false =>
          rw [hb] at h
          obtain ⟨c1, c2⟩ := compat_ok (show compatP k j _ from h)
          obtain ⟨i1, i2⟩ := ih c2
          refine ⟨fun x hx => ?_, i2⟩
          rcases List.mem_cons.1 hx with rfl | hx
          · simp [c1]
          · exact i1 x hx
    split
    · exact ⟨rfl, key.2⟩
    · exact key

theorem vcD_ok {n N : Nat} {all : List Oper} {K : Env → Heap → Prop} : ∀ (l : List (Oper × Plan)) (known : List (Nat × Kn)) (ρ : Env) (T : List Value) (H : Heap) (rs : List Rec), T.length = n → Agree (liveOps all (l.map (·.1)) N) ρ T → KnOk known T → vcD P n all l K known ρ H rs →
    ∃ m o, opsD P (runO P m) all l T H rs = some o ∧ o.ex = .normal ∧ o.T.length = n ∧ ∃ ρ', Agree N ρ' o.T ∧ K ρ' o.H
  | [], known, ρ, T, H, rs, hl, ha, hk, h => ⟨0, _, rfl, rfl, hl, ρ, ha, h⟩
  | (o, p) :: l, known, ρ, T, H, rs, hl, ha, hk, h => by
    have ha : Agree (Nat.lor (clrO (liveOps all (l.map (·.1)) N) o.dst) (Nat.lor (rdL o.op.operands.toList) (rdG all o.guard))) ρ T := ha
    have h : vcGuard n all o (fun kn => vcStep P o.op ρ H fun v H' => fitsP p.mask (mkRecE o p ρ H H') rs (vcD P n all l K (setK kn o.dst (knOp kn o.op)) (put ρ o.dst v) H' (mkRecE o p ρ H H' :: rs)))
      (fun kn => vcD P n all l K (setK kn o.dst .undef) (put ρ o.dst undef) H rs) known ρ := h
    obtain ⟨a1, a2⟩ := ha.or
    obtain ⟨a2, a3⟩ := a2.or
    obtain ⟨hd, hg⟩ := vcGuard_ok hk a3 h
    rcases hg with ⟨hw, kn, hkn, hA⟩ | ⟨hw, kn, hkn, hB⟩
    · obtain ⟨m1, v, H', h1, h2⟩ := vcStep_ok (rdL_ok a2) hA
      obtain ⟨f1, f2⟩ := fits_ok h2
      have hrec : mkRecE o p ρ H H' = mkRec o p T H H' := by
        unfold mkRecE mkRec
        rw [evs_agree (rdL_ok a2)]
        rfl
      rw [hrec] at f1 f2
      obtain ⟨m2, o2, g1, g2, g3, g4⟩ := vcD_ok l _ _ _ _ _ (putT_length.trans hl) (put_agree hl hd a1) (hkn.put hl hd (k := knOp kn o.op) (knOp_ok hkn h1)) f2
      refine ⟨max m1 m2, o2, ?_, g2, g3, g4⟩
      show opF2 P (runO P (max m1 m2)) o p ((wantedC all o.guard).f T) T H rs (opsD P (runO P (max m1 m2)) all l) = some o2
      rw [hw]
      have hst : stepD P (runO P (max m1 m2)) o p T H = some (v, H') := stepC_le (run_le (Nat.le_max_left m1 m2)) h1
      unfold opF2
      simp only [hst, f1]
      exact opsD_le (run_le (Nat.le_max_right m1 m2)) _ _ _ _ _ _ g1
    · obtain ⟨m2, o2, g1, g2, g3, g4⟩ := vcD_ok l _ _ _ _ _ (putT_length.trans hl) (put_agree hl hd a1) (hkn.put hl hd (k := .undef) fun _ _ e => e) hB
      refine ⟨m2, o2, ?_, g2, g3, g4⟩
      show opF2 P (runO P m2) o p ((wantedC all o.guard).f T) T H rs (opsD P (runO P m2) all l) = some o2
      rw [hw]
      exact g1

theorem plans_ops (l : List Oper) : (plans P l).map (·.1) = l := by
  unfold plans plansOf
  rw [List.map_map]
  apply List.ext_getElem?
  intro i
  rw [List.getElem?_map]
  cases h : (placed l)[i]? with
  | none =>
    have h1 := List.getElem?_eq_none_iff.1 h
    rw [placed_length] at h1
    rw [List.getElem?_eq_none h1]; rfl
  | some x =>
    obtain ⟨h1, _⟩ := placed_spec l i x h
    rw [h1]; rfl

theorem vcR_ok {n N : Nat} {ops : List Oper} {d : Bool} {ρ : Env} {T : List Value} {H : Heap} {K : Env → Heap → Prop} (hl : T.length = n) (ha : Agree (liveOps ops ops N) ρ T) (h : vcR P n ops d ρ H K) :
    ∃ m o, (match d with | true => drawA P (runO P m) ops T H | false => opsA P (runO P m) ops ops T H) = some o ∧ o.ex = .normal ∧ o.T.length = n ∧ ∃ ρ', Agree N ρ' o.T ∧ K ρ' o.H := by
  unfold vcR at h
  have hk0 : KnOk [] T := fun d => trivial
  cases d with
  | false => exact vcOps_ok _ _ _ _ _ hl ha hk0 h
  | true =>
    simp only at h
    split at h
    case h_2 => exact h.elim
    case h_1 hap =>
    obtain ⟨m, o, g⟩ := vcD_ok (N := N) _ _ _ T _ _ hl (by rw [plans_ops]; exact ha) hk0 h
    refine ⟨m, o, ?_, g.2⟩
    unfold drawA
    rw [hap]
    exact g.1

/-! environments over lists of slots -/
theorem mapN_map (ρ : Env) (l : List Nat) : mapN ρ l = l.map ρ := by
  induction l with
  | nil => rfl
  | cons i r ih => show ρ i :: mapN ρ r = _; rw [ih]; rfl
theorem envFrom_ok (l : List Value) : ∀ (keys : List Nat) (p i : Nat), (∀ k, keys[k]? = some i → (∀ j, j < k → keys[j]? ≠ some i) → envFrom l keys p i = nth l (p + k)) ∧ (i ∉ keys → envFrom l keys p i = undef)
  | [], p, i => ⟨fun k h => by simp at h, fun _ => rfl⟩
  | x :: r, p, i => by
    obtain ⟨h1, h2⟩ := envFrom_ok l r (Nat.succ p) i
    have e : envFrom l (x :: r) p i = cond (Nat.beq i x) (nth l p) (envFrom l r (Nat.succ p) i) := rfl
    refine ⟨fun k hk hj => ?_, fun hn => ?_⟩
    · rw [e]
      cases hb : Nat.beq i x with
      | true =>
        have hix := Nat.eq_of_beq_eq_true hb
        have hk0 : k = 0 := by
          rcases Nat.eq_zero_or_pos k with h | h
          · exact h
          · exact absurd (by simp [hix]) (hj 0 h)
        subst hk0; rfl
      | false =>
        have hix := Nat.ne_of_beq_eq_false hb
        cases k with
        | zero => simp at hk; exact absurd hk.symm hix
        | succ k =>
          show envFrom l r (Nat.succ p) i = _
          rw [h1 k (by simpa using hk) fun j hjk => by have := hj (j + 1) (by omega); simpa using this]
          congr 1; omega
    · rw [e]
      cases hb : Nat.beq i x with
      | true => exact absurd (by rw [Nat.eq_of_beq_eq_true hb]; simp) hn
      | false => exact h2 fun h => hn (by simp [h])
theorem first_at {l : List Nat} {i : Nat} (h : i ∈ l) : ∃ k : Nat, l[k]? = some i ∧ ∀ j, j < k → l[j]? ≠ some i := by
  induction l with
  | nil => cases h
  | cons x r ih =>
    by_cases hx : x = i
    · exact ⟨0, by simp [hx], fun j hj => by omega⟩
    · obtain ⟨k, h1, h2⟩ := ih (by rcases List.mem_cons.1 h with h | h; exact absurd h.symm hx; exact h)
      refine ⟨k + 1, by simpa using h1, fun j hj => ?_⟩
      cases j with
      | zero => simp [hx]
      | succ j => simpa using h2 j (by omega)
theorem envOf_mapN (ρ : Env) (keys : List Nat) (i : Nat) : envOf keys (mapN ρ keys) i = if i ∈ keys then ρ i else undef := by
  unfold envOf
  obtain ⟨h1, h2⟩ := envFrom_ok (mapN ρ keys) keys 0 i
  split
  · rename_i h
    obtain ⟨k, a, b⟩ := first_at h
    rw [h1 k a b, mapN_map, nth_eq, List.getD_eq_getElem?_getD, List.getElem?_map, Nat.zero_add, a]; rfl
  · rename_i h; exact h2 h
theorem bits_spec (m : Nat) : ∀ (n : Nat) (acc : List Nat) (i : Nat), i ∈ (Nat.rec (motive := fun _ => List Nat → List Nat) (fun acc => acc) (fun k ih acc => ih (cond (bitB m k) (k :: acc) acc)) n acc) ↔ i ∈ acc ∨ (i < n ∧ bitB m i = true)
  | 0, acc, i => by show i ∈ acc ↔ _; simp
  | n + 1, acc, i => by
    have := bits_spec m n (cond (bitB m n) (n :: acc) acc) i
    refine this.trans ?_
    cases hb : bitB m n with
    | true =>
      simp only [cond_true, List.mem_cons]
      constructor
      · rintro ((rfl | h) | h)
        · exact .inr ⟨by omega, hb⟩
        · exact .inl h
        · exact .inr ⟨by omega, h.2⟩
      · rintro (h | ⟨h1, h2⟩)
        · exact .inl (.inr h)
        · by_cases he : i = n
          · exact .inl (.inl he)
          · exact .inr ⟨by omega, h2⟩
    | false =>
      simp only [cond_false]
      constructor
      · rintro (h | h)
        · exact .inl h
        · exact .inr ⟨by omega, h.2⟩
      · rintro (h | ⟨h1, h2⟩)
        · exact .inl h
        · by_cases he : i = n
          · subst he; rw [hb] at h2; cases h2
          · exact .inr ⟨by omega, h2⟩
theorem mem_bits {n m i : Nat} : i ∈ bits n m ↔ i < n ∧ bitB m i = true := by
  unfold bits bitsFrom
  rw [bits_spec]; simp
theorem agree_bits {n m : Nat} {ρ : Env} {T : List Value} (hl : T.length = n) (h : Agree m ρ T) : Agree m (envOf (bits n m) (mapN ρ (bits n m))) T := fun i hi => by
  rw [envOf_mapN]
  split
  · exact h i hi
  · rename_i hn
    rw [nth_eq, List.getD_eq_getElem?_getD, List.getElem?_eq_none]
    · rfl
    · have : ¬ i < n := fun hlt => hn (mem_bits.2 ⟨hlt, hi⟩)
      omega

theorem envOf_agreeK {n m : Nat} {ρ : Env} {T : List Value} (h : Agree m ρ T) : AgreeK (bits n m) (envOf (bits n m) (mapN ρ (bits n m))) T := fun i hi => by
  rw [envOf_mapN, if_pos hi]; exact h i (mem_bits.1 hi).2
theorem agree_of_K {n m : Nat} {l : List Value} {T : List Value} (hl : T.length = n) (h : AgreeK (bits n m) (envOf (bits n m) l) T) : Agree m (envOf (bits n m) l) T := fun i hi => by
  by_cases hn : i < n
  · exact h i (mem_bits.2 ⟨hn, hi⟩)
  · have h1 : nth T i = undef := by
      rw [nth_eq, List.getD_eq_getElem?_getD, List.getElem?_eq_none (by omega)]; rfl
    rw [h1]
    exact ((envFrom_ok l (bits n m) 0 i).2 fun hm => hn (mem_bits.1 hm).1).symm

def Lv (N X : Nat) : Ex → Nat
  | .normal => N
  | _ => X
theorem vcC_ok (top : Bool) (n : Nat) : ∀ (c : Code) (N X : Nat) (ρ : Env) (T : List Value) (H : Heap) (Q : Ex → Env → Heap → Prop), T.length = n → Agree (live c N X) ρ T → vcC P top n c N X ρ H Q →
    ∃ m o, (codeC P top c).f (runO P m) T H = some o ∧ o.T.length = n ∧ ∃ ρ', Agree (Lv N X o.ex) ρ' o.T ∧ Q o.ex ρ' o.H := by
  intro c
  induction c with
  | skip => intro N X ρ T H Q hl ha h; exact ⟨0, _, rfl, hl, ρ, ha, h⟩
  | region id ops d =>
    intro N X ρ T H Q hl ha h
    obtain ⟨m, o, h1, h2, h3, ρ', h4, h5⟩ := vcR_ok (d := d) hl ha h
    refine ⟨m, o, ?_, h3, ρ', by rw [h2]; exact h4, by rw [h2]; exact h5⟩
    cases d <;> exact h1
  | seq a b ia ib =>
    intro N X ρ T H Q hl ha h
    have h : (match joinB a b with
      | true => wJoin (fun J => vcC P top n a (live b N X) X ρ H (seqQ (fun ρ H => J (mapN ρ (bits n (live b N X))) H) Q)) (fun l H => vcC P top n b N X (envOf (bits n (live b N X)) l) H Q)
      | false => vcC P top n a (live b N X) X ρ H (seqQ (fun ρ H => vcC P top n b N X ρ H Q) Q)) := h
    -- both forms: a, and then b from wherever a ends
    have key : ∃ J : Env → Heap → Prop, vcC P top n a (live b N X) X ρ H (seqQ J Q) ∧ ∀ ρ1 T1 H1, T1.length = n → Agree (live b N X) ρ1 T1 → J ρ1 H1 → ∃ ρ2, Agree (live b N X) ρ2 T1 ∧ vcC P top n b N X ρ2 H1 Q := by
      split at h
      · obtain ⟨J, hA, hB⟩ := h
        refine ⟨_, hA, fun ρ1 T1 H1 hl1 ha1 hJ => ⟨_, agree_bits hl1 ha1, hB _ _ hJ⟩⟩
      · exact ⟨_, h, fun ρ1 T1 H1 _ ha1 hJ => ⟨ρ1, ha1, hJ⟩⟩
    obtain ⟨J, hA, hB⟩ := key
    obtain ⟨m1, o1, h1, h2, ρ1, h3, h4⟩ := ia _ _ _ _ _ _ hl ha hA
    obtain ⟨e, T1, H1⟩ := o1
    cases e with
    | normal =>
      obtain ⟨ρ2, h5, h6⟩ := hB ρ1 T1 H1 h2 h3 h4
      obtain ⟨m2, o2, g1, g2, ρ3, g3, g4⟩ := ib _ _ _ _ _ _ h2 h5 h6
      refine ⟨max m1 m2, o2, ?_, g2, ρ3, g3, g4⟩
      show thenA ((codeC P top a).f (runO P (max m1 m2)) T H) (fun T H => (codeC P top b).f (runO P (max m1 m2)) T H) = some o2
      rw [codeC_le (run_le (Nat.le_max_left m1 m2)) top _ _ _ _ h1]
      exact codeC_le (run_le (Nat.le_max_right m1 m2)) top _ _ _ _ g1
    | exit id =>
      refine ⟨m1, ⟨.exit id, T1, H1⟩, ?_, h2, ρ1, h3, h4⟩
      show thenA ((codeC P top a).f (runO P m1) T H) (fun T H => (codeC P top b).f (runO P m1) T H) = _
      rw [h1]; rfl
    | ret =>
      refine ⟨m1, ⟨.ret, T1, H1⟩, ?_, h2, ρ1, h3, h4⟩
      show thenA ((codeC P top a).f (runO P m1) T H) (fun T H => (codeC P top b).f (runO P m1) T H) = _
      rw [h1]; rfl
  | cond c a b ia ib =>
    intro N X ρ T H Q hl ha h
    have ha : Agree (Nat.lor (rdO c) (Nat.lor (live a N X) (live b N X))) ρ T := ha
    obtain ⟨a1, a2⟩ := ha.or
    obtain ⟨a2, a3⟩ := a2.or
    obtain ⟨h1, h2, t, ht⟩ := (show wIf (ev c ρ) (vcC P top n a N X ρ H Q) (vcC P top n b N X ρ H Q) from h)
    cases t with
    | true =>
      obtain ⟨m, o, g1, g2⟩ := ia _ _ _ _ _ _ hl a2 (h1 ht)
      refine ⟨m, o, ?_, g2⟩
      show ifA (runO P m) ((evC c).g T) (codeC P top a) (codeC P top b) T H = some o
      rw [rdO_ok a1, ht]; exact g1
    | false =>
      obtain ⟨m, o, g1, g2⟩ := ib _ _ _ _ _ _ hl a3 (h2 ht)
      refine ⟨m, o, ?_, g2⟩
      show ifA (runO P m) ((evC c).g T) (codeC P top a) (codeC P top b) T H = some o
      rw [rdO_ok a1, ht]; exact g1
  | block id b ib =>
    intro N X ρ T H Q hl ha h
    obtain ⟨m, o, g1, g2, ρ', g3, g4⟩ := ib _ _ _ _ _ _ hl ha (show vcC P top n b N (Nat.lor N X) ρ H (blockQ id Q) from h)
    obtain ⟨e, T1, H1⟩ := o
    have run1 : ∀ o', blockA id (some ⟨e, T1, H1⟩) = some o' → (codeC P top (.block id b)).f (runO P m) T H = some o' := fun o' ho => by
      show blockA id ((codeC P top b).f (runO P m) T H) = some o'
      rw [g1]; exact ho
    cases e with
    | normal => exact ⟨m, _, run1 _ rfl, g2, ρ', g3, g4⟩
    | ret => exact ⟨m, _, run1 _ rfl, g2, ρ', (show Agree (Nat.lor N X) ρ' T1 from g3).or.2, g4⟩
    | exit i =>
      have g3 : Agree (Nat.lor N X) ρ' T1 := g3
      have g4 : cond (Nat.beq i id) (Q .normal ρ' H1) (Q (.exit i) ρ' H1) := g4
      cases hb : Nat.beq i id with
      | true =>
        rw [hb] at g4
        refine ⟨m, ⟨.normal, T1, H1⟩, run1 _ ?_, g2, ρ', g3.or.1, g4⟩
        unfold blockA; simp only [hb]; rfl
      | false =>
        rw [hb] at g4
        refine ⟨m, ⟨.exit i, T1, H1⟩, run1 _ ?_, g2, ρ', g3.or.2, g4⟩
        unfold blockA; simp only [hb]; rfl
  | loop b _ =>
    intro N X ρ T H Q hl ha h
    have h : (match Nat.beq (live b (live b 0 X) X) (live b 0 X) with
      | true => wLoop P top n b X (mapN ρ (bits n (live b 0 X))) H (fun id l H => Q (.exit id) (envOf (bits n X) l) H) (fun l H => Q .ret (envOf (bits n X) l) H)
      | false => False) := h
    split at h
    case h_2 => exact h.elim
    case h_1 =>
    obtain ⟨m, o, g1, g2, l, g4, g5⟩ := h T hl (envOf_agreeK (m := live b 0 X) ha)
    have := agree_of_K g2 g4
    obtain ⟨e, T1, H1⟩ := o
    cases e with
    | normal => exact (show False from g5).elim
    | exit id => exact ⟨m, _, g1, g2, envOf (bits n X) l, this, g5⟩
    | ret => exact ⟨m, _, g1, g2, envOf (bits n X) l, this, g5⟩
  | exit id => intro N X ρ T H Q hl ha h; exact ⟨0, _, rfl, hl, ρ, ha, h⟩
  | label l => intro N X ρ T H Q hl ha h; exact ⟨0, _, rfl, hl, ρ, ha, h⟩
  | ret => intro N X ρ T H Q hl ha h; exact ⟨0, _, rfl, hl, ρ, ha, h⟩
  | rangeFunc g ps asg body _ _ => intro N X ρ T H Q hl ha h; exact h.elim
  | _ => intros; rename_i h; exact h.elim

/-- a loop, by what holds each time it goes on -/
theorem loop_ind {top : Bool} {n : Nat} {b : Code} {X : Nat} {Qx : Nat → List Value → Heap → Prop} {Qr : List Value → Heap → Prop} (hfix : live b (live b 0 X) X = live b 0 X) (I : Nat → List Value → Heap → Prop)
    (hs : ∀ k l H, I k l H → vcC P top n b (live b 0 X) X (envOf (bits n (live b 0 X)) l) H (loopQ n b X (fun l H => ∃ k', k' < k ∧ I k' l H) Qx Qr)) : ∀ k l H, I k l H → wLoop P top n b X l H Qx Qr := by
  intro k
  induction k using Nat.strongRecOn with
  | ind k ih =>
    intro l H hI T hl ha
    obtain ⟨m, o, h1, h2, ρ', h3, h4⟩ := vcC_ok top n b _ _ _ T H _ hl (by rw [hfix]; exact agree_of_K hl ha) (hs k l H hI)
    obtain ⟨e, T1, H1⟩ := o
    have stop : e ≠ .normal → exQ Qx Qr e (mapN ρ' (bits n X)) H1 → Agree X ρ' T1 → ∃ m o, runO P m (.loop top b T H) = some o ∧ o.T.length = n ∧ ∃ l, AgreeK (bits n X) (envOf (bits n X) l) o.T ∧ exQ Qx Qr o.ex l o.H := by
      intro he hq hag
      refine ⟨m + 1, ⟨e, T1, H1⟩, ?_, h2, _, envOf_agreeK hag, hq⟩
      show thenA ((codeC P top b).f (runO P m) T H) (fun T H => runO P m (.loop top b T H)) = _
      rw [h1]
      cases e <;> first | exact absurd rfl he | rfl
    cases e with
    | normal =>
      obtain ⟨k', hk, hI'⟩ := h4
      obtain ⟨m2, o2, g1, g2⟩ := ih k' hk _ _ hI' T1 h2 (envOf_agreeK h3)
      refine ⟨max m m2 + 1, o2, ?_, g2⟩
      show thenA ((codeC P top b).f (runO P (max m m2)) T H) (fun T H => runO P (max m m2) (.loop top b T H)) = _
      rw [codeC_le (run_le (Nat.le_max_left m m2)) top _ _ _ _ h1]
      exact run_le (Nat.le_max_right m m2) _ _ g1
    | exit id => exact stop (by simp) h4 h3
    | ret => exact stop (by simp) h4 h3

theorem res1_ok {r : ResultVar} {ρ : Env} {T : List Value} {H : Heap} {K : Value → Prop} (ha : Agree (rdR r) ρ T) (h : res1 P r ρ H K) : ∃ v, resultOne P T H r = some v ∧ K v := by
  cases r with
  | tmp t => exact ⟨nth T t, rfl, by rw [ha t (by show bitB (Nat.shiftLeft 1 t) t = true; rw [bit_one]; simp)]; exact h⟩
  | cell a t =>
    obtain ⟨v, H', h1, h2⟩ := h
    refine ⟨v, ?_, h2⟩
    unfold resultOne
    simp only [ha a (by show bitB (Nat.shiftLeft 1 a) a = true; rw [bit_one]; simp), h1]
theorem resL_ok {ρ : Env} {T : List Value} {H : Heap} : ∀ (rs : List ResultVar) (k : List Value → Prop), Agree (rdRes rs) ρ T → resL P rs ρ H k → ∃ vs, resultsL P T H rs = some vs ∧ k vs
  | [], k, _, h => ⟨[], rfl, h⟩
  | r :: rs, k, ha, h => by
    obtain ⟨a1, a2⟩ := (show Agree (Nat.lor (rdR r) (rdRes rs)) ρ T from ha).or
    obtain ⟨v, h1, h2⟩ := res1_ok a1 (show res1 P r ρ H fun v => resL P rs ρ H fun vs => k (v :: vs) from h)
    obtain ⟨vs, h3, h4⟩ := resL_ok rs _ a2 h2
    exact ⟨v :: vs, by unfold resultsL; simp only [h1, h3], h4⟩
theorem resW_ok {rs : List ResultVar} {ρ : Env} {T : List Value} {H : Heap} {K : Value → Heap → Prop} (ha : Agree (rdRes rs) ρ T) (h : resW P rs ρ H K) : ∃ v, resultsA P rs T H = some v ∧ K v H := by
  unfold resW at h
  unfold resultsA
  split at h
  · rename_i r
    obtain ⟨a1, _⟩ := (show Agree (Nat.lor (rdR r) (rdRes [])) ρ T from ha).or
    exact res1_ok a1 h
  · rename_i hne
    obtain ⟨vs, h1, h2⟩ := resL_ok _ _ ha h
    split
    · rename_i r; exact absurd rfl (hne r)
    · exact ⟨_, by rw [h1], h2⟩

/-- a function, by its text -/
theorem wCall_of_vcF {f : FuncId} {args : List Value} {H : Heap} {K : Value → Heap → Prop} (hno : Orc.tab f args H = none) (h : vcF P f args H K) : wCall P f args H K := by
  unfold vcF at h
  split at h
  case h_2 => exact h.elim
  case h_1 fn hf =>
  split at h
  case h_2 => exact h.elim
  case h_1 c hc =>
  split at h
  case h_2 => exact h.elim
  case h_1 hlen =>
  rw [ble_eq, lenN_eq] at hlen
  have hlen := of_decide_eq_true hlen
  have hT : (appN args (repl (fn.ntmps - lenN args) [undef])).length = fn.ntmps := by
    rw [appN_eq, repl1_eq, lenN_eq, List.length_append, List.length_replicate]; omega
  have hn : ∀ i, nth (appN args (repl (fn.ntmps - lenN args) [undef])) i = nth args i := by
    intro i
    rw [appN_eq, repl1_eq, nth_eq, nth_eq, List.getD_eq_getElem?_getD, List.getD_eq_getElem?_getD]
    by_cases hi : i < args.length
    · rw [List.getElem?_append_left hi]
    · rw [List.getElem?_append_right (by omega), List.getElem?_eq_none (by omega : args.length ≤ i)]
      cases hx : (List.replicate (fn.ntmps - lenN args) undef)[i - args.length]? with
      | none => rfl
      | some v => rw [List.getElem?_replicate] at hx; split at hx <;> cases hx; rfl
  obtain ⟨m, o, h1, h2, ρ', h3, h4⟩ := vcC_ok true fn.ntmps c _ _ _ _ H _ hT (fun i _ => hn i) h
  obtain ⟨e, T1, H1⟩ := o
  have fin : e ≠ .exit 0 → (∀ id, e ≠ .exit id) → Agree (rdRes fn.results.toList) ρ' T1 → resW P fn.results.toList ρ' H1 K → wCall P f args H K := by
    intro _ hx hag hr
    obtain ⟨v, g1, g2⟩ := resW_ok hag hr
    refine ⟨m + 1, .ret, v, H1, ?_, g2⟩
    show (match Orc.tab f args H with | some v => some (⟨.ret, [v], H⟩ : Out) | none => (fnC P f).f (runO P m) args H) = _
    rw [hno]
    simp only
    unfold fnC
    rw [hf]
    simp only [hc]
    rw [h1]
    unfold endA
    cases e with
    | exit id => exact absurd rfl (hx id)
    | normal => simp only [g1]
    | ret => simp only [g1]
  cases e with
  | normal => exact fin (by simp) (by simp) h3 h4
  | exit id => exact (show False from h4).elim
  | ret => exact fin (by simp) (by simp) h3 h4
end
end Go.Ab
