import Derived.Test.YtccblhllmplmaaaAbSl2
import Derived.Test.YtccblhllmplmaaaAbArg
namespace Go.Ab
open Go Go.ChangeShapes Go.WideShapes Go.RowKit
set_option linter.unusedVariables false

/-- the heap that an argument's blocks make: a block that holds nothing isn't there -/
noncomputable def lay (H : Heap) (bs : List (List Value)) : Heap := match bs with
  | [] => H
  | b :: r => lay ⟨H.t.set H.next (match b with | [] => none | _ :: _ => some ⟨b, false⟩), Nat.succ H.next, H.floor, H.lps⟩ r
/-- the values of arguments -/
inductive ArgS (P : Program) : List TypeId → Nat → List Value → List (List Value) → Prop
  | nil {N : Nat} : ArgS P [] N [] []
  | one {t : TypeId} {ts : List TypeId} {N : Nat} {v : Value} {vs : List Value} {b b' : List (List Value)} : (∀ fs, P.underlying t ≠ some (.struct fs)) → (∀ n e, P.underlying t ≠ some (.array n e)) → ShpL P [t] N [v] b → ArgS P ts (N + b.length) vs b' → ArgS P (t :: ts) N (v :: vs) (b ++ b')
  | agg {t : TypeId} {ts : List TypeId} {N : Nat} {cs vs : List Value} {b b' : List (List Value)} : ((∃ fs, P.underlying t = some (.struct fs)) ∨ ∃ n e, P.underlying t = some (.array n e)) → ShpL P [t] N cs b → ArgS P ts (N + b.length) vs b' → ArgS P (t :: ts) N (.agg cs.toArray :: vs) (b ++ b')

section
variable {H : Type} {enc : TypeId × Value → H} {P : Program} {W : World}
theorem okWide_cells {d : Nat} {base : Nat} {r : Reach} {t : TypeId} {v : Value} (hs : supB P d t = true) (h : Value.okWide P W r base t v) :
    v.cells.toList.length = P.cellsOf t ∧ (((∀ fs, P.underlying t ≠ some (.struct fs)) ∧ (∀ n e, P.underlying t ≠ some (.array n e)) ∧ v.cells.toList = [v]) ∨ (((∃ fs, P.underlying t = some (.struct fs)) ∨ ∃ n e, P.underlying t = some (.array n e)) ∧ ∃ cs, v = .agg cs)) := by
  have scalar : ∀ {u : TypeDesc}, P.underlying t = some u → (∀ fs, u ≠ .struct fs) → (∀ n e, u ≠ .array n e) → P.cellsOf t = 1 → (u = .bool ∨ u = .string ∨ (∃ k, u = .int k) ∨ ∃ e, u = .slice e) → v.cells.toList.length = P.cellsOf t ∧ (((∀ fs, P.underlying t ≠ some (.struct fs)) ∧ (∀ n e, P.underlying t ≠ some (.array n e)) ∧ v.cells.toList = [v]) ∨ (((∃ fs, P.underlying t = some (.struct fs)) ∨ ∃ n e, P.underlying t = some (.array n e)) ∧ ∃ cs, v = .agg cs)) := by
    intro u hu h1 h2 hc hk
    have e : v.cells.toList = [v] := by
      unfold Value.okWide at h
      rw [hu] at h
      rcases hk with rfl | rfl | ⟨k, rfl⟩ | ⟨e, rfl⟩ <;> simp only at h <;> unfold Cell.okWide at h <;> rw [hu] at h <;> simp only at h <;> unfold Cell.ok at h <;> rw [hu] at h <;> cases v <;> first | rfl | exact absurd h (by simp)
    exact ⟨by rw [e, hc]; rfl, .inl ⟨fun fs => by rw [hu]; intro e; cases e; exact h1 _ rfl, fun n e => by rw [hu]; intro e; cases e; exact h2 _ _ rfl, e⟩⟩
  cases d with
  | zero => cases hs
  | succ d =>
    unfold supB at hs
    split at hs <;> try (cases hs; done)
    · rename_i hu; exact scalar hu (by simp) (by simp) (Nat.eq_of_beq_eq_true hs) (.inl rfl)
    · rename_i k hu; exact scalar hu (by simp) (by simp) (Nat.eq_of_beq_eq_true hs) (.inr (.inr (.inl ⟨_, rfl⟩)))
    · rename_i hu; exact scalar hu (by simp) (by simp) (Nat.eq_of_beq_eq_true hs) (.inr (.inl rfl))
    · rename_i e hu; rw [Bool.and_eq_true] at hs; exact scalar hu (by simp) (by simp) (Nat.eq_of_beq_eq_true hs.1) (.inr (.inr (.inr ⟨_, rfl⟩)))
    · rename_i fs hu
      unfold Value.okWide at h
      rw [hu] at h
      obtain ⟨cs, rfl, h1, _⟩ := h
      exact ⟨h1, .inr ⟨.inl ⟨_, hu⟩, cs, rfl⟩⟩
    · rename_i n e hu
      unfold Value.okWide at h
      rw [hu] at h
      obtain ⟨cs, rfl, h1, _⟩ := h
      exact ⟨h1, .inr ⟨.inr ⟨_, _, hu⟩, cs, rfl⟩⟩
theorem open_args {d : Nat} {base : Nat} {r : Reach} : ∀ (ts : List TypeId) (vs : List Value) (ds : List (DataW H)) (p : List MemPlace), (∀ t ∈ ts, supB P d t = true) → (∀ (j : Nat) (t : TypeId) (v : Value), ts[j]? = some t → vs[j]? = some v → Value.okWide P W r base t v) →
    DataW.TrodAll enc P W 0 (fun _ => true) true ts vs ds p → ∀ N, ∃ as bs ls, ArgS P ts N as bs ∧ ls.length = bs.length ∧ VRs (locF N ls) as vs ∧ ∀ (i : Nat) (b : List Value) (x : Nat × Nat × Nat), bs[i]? = some b → ls[i]? = some x → BlkAt (locF N ls) W b x
  | [], [], [], p, _, _, _, N => ⟨[], [], [], .nil, rfl, .nil, fun i b x h => by simp at h⟩
  | [], [], _ :: _, p, _, _, h, N => h.elim
  | [], _ :: _, _, p, _, _, h, N => h.elim
  | _ :: _, [], _, p, _, _, h, N => h.elim
  | _ :: _, _ :: _, [], p, _, _, h, N => h.elim
  | t :: ts, v :: vs, x :: ds, p, hs, hok, h, N => by
    have h0 := h
    have hv := hok 0 t v rfl rfl
    have hsup := hs t (by simp)
    obtain ⟨p1, q1, ⟨fuel, hf⟩, hr, _⟩ := h0
    have hrd : RdT enc P W t v.cells.toList := ⟨fuel, _, hf⟩
    obtain ⟨hlen, hag⟩ := okWide_cells hsup hv
    obtain ⟨as, bs, ls, h1⟩ := open_one d t _ hsup hrd hlen N
    obtain ⟨as', bs', ls', h2, h3, h4, h5⟩ := open_args ts vs ds q1 (fun t ht => hs t (by simp [ht])) (fun j t v ht hv => hok (j + 1) t v (by simpa using ht) (by simpa using hv)) hr (N + bs.length)
    have hr2 : ∀ id x, locF (N + bs.length) ls' id = some x → locF N (ls ++ ls') id = some x := by rw [← h1.len]; exact locF_right
    have hat : ∀ (i : Nat) (b : List Value) (x : Nat × Nat × Nat), (bs ++ bs')[i]? = some b → (ls ++ ls')[i]? = some x → BlkAt (locF N (ls ++ ls')) W b x := by
      intro i b x hb hx
      by_cases hi : i < bs.length
      · rw [List.getElem?_append_left hi] at hb
        rw [List.getElem?_append_left (by rw [h1.len]; exact hi)] at hx
        exact (h1.at' i b x hb hx).mono locF_left
      · rw [List.getElem?_append_right (by omega)] at hb
        rw [List.getElem?_append_right (by rw [h1.len]; omega), h1.len] at hx
        exact (h5 _ b x hb hx).mono hr2
    have hll : (ls ++ ls').length = (bs ++ bs').length := by rw [List.length_append, List.length_append, h1.len, h3]
    rcases hag with ⟨hn1, hn2, hc⟩ | ⟨hn, cs, rfl⟩
    · rw [hc] at h1
      have hv1 := h1.vr
      obtain ⟨a, rfl⟩ : ∃ a, as = [a] := List.length_eq_one_iff.1 (by rw [hv1.length]; rfl)
      exact ⟨a :: as', bs ++ bs', ls ++ ls', .one hn1 hn2 h1.shp h2, hll, (hv1.mono locF_left).cons (h4.mono hr2), hat⟩
    · refine ⟨.agg as.toArray :: as', bs ++ bs', ls ++ ls', .agg hn h1.shp h2, hll, .agg _ _ ?_ (h4.mono hr2), hat⟩
      exact h1.vr.mono locF_left
end

/-! the heap of the arguments -/
theorem start_up : ∀ n, (start n).t.Up n
  | 0 => fun m hm => absurd hm (Nat.not_lt_zero _)
  | n + 1 => fun m hm => by
    have e : (start (n + 1)).t = (start n).t.set n none := rfl
    rw [e]
    by_cases h : m = n
    · subst h; exact (Tr.up_set _ _ _ (start_up m)).2
    · exact Tr.in_set _ _ _ _ (start_up n m (by omega))
noncomputable def optB (b : List Value) : Option Blk := match b with | [] => none | _ :: _ => some ⟨b, false⟩
theorem lay_cons (H : Heap) (b : List Value) (r : List (List Value)) : lay H (b :: r) = lay ⟨H.t.set H.next (optB b), Nat.succ H.next, H.floor, H.lps⟩ r := rfl
structure Laid (H : Heap) (bs : List (List Value)) (H' : Heap) : Prop where
  next : H'.next = H.next + bs.length
  floor : H'.floor = H.floor
  lps : H'.lps = H.lps
  up : H.t.Up H.next → H'.t.Up H'.next
  old : ∀ i, i < H.next → H'.get i = H.get i
  new : H.t.Up H.next → ∀ j b, bs[j]? = some b → H'.get (H.next + j) = optB b
  out : ∀ i b, H'.get i = some b → H.get i = some b ∨ ∃ j c, i = H.next + j ∧ bs[j]? = some c ∧ optB c = some b
theorem lay_ok : ∀ (bs : List (List Value)) (H : Heap), Laid H bs (lay H bs)
  | [], H => ⟨rfl, rfl, rfl, fun h => h, fun _ _ => rfl, fun _ j b h => by simp at h, fun i b h => .inl h⟩
  | b :: r, H => by
    have ih := lay_ok r ⟨H.t.set H.next (optB b), Nat.succ H.next, H.floor, H.lps⟩
    rw [lay_cons]
    have hup : H.t.Up H.next → (H.t.set H.next (optB b)).Up (Nat.succ H.next) := fun hu m hm => by
      by_cases h : m = H.next
      · subst h; exact (Tr.up_set _ _ _ hu).2
      · exact Tr.in_set _ _ _ _ (hu m (by omega))
    refine ⟨by rw [ih.next]; simp only [List.length_cons]; omega, ih.floor, ih.lps, fun hu => ih.up (hup hu), fun i hi => ?_, fun hu j c hj => ?_, fun i x hx => ?_⟩
    · rw [ih.old i (by show i < Nat.succ H.next; omega)]
      exact Tr.get_set_other _ _ _ _ (by omega)
    · cases j with
      | zero =>
        simp at hj; subst hj
        rw [ih.old (H.next + 0) (by show _ < Nat.succ H.next; omega)]
        exact (Tr.up_set _ _ _ hu).1
      | succ j =>
        have := ih.new (hup hu) j c (by simpa using hj)
        rw [show H.next + (j + 1) = Nat.succ H.next + j by omega]; exact this
    · rcases ih.out i x hx with h | ⟨j, c, h1, h2, h3⟩
      · rcases Tr.get_set _ _ _ _ _ h with ⟨e1, e2⟩ | ⟨_, e2⟩
        · exact .inr ⟨0, b, e1, by simp, e2⟩
        · exact .inl e2
      · exact .inr ⟨j + 1, c, by rw [h1]; show Nat.succ H.next + j = _; omega, by simpa using h2, h3⟩

/-- the arguments' blocks, with their numbers -/
def argG (N : Nat) : List (List Value) → List (Nat × Blk)
  | [] => []
  | b :: r => (N, ⟨b, false⟩) :: argG (N + 1) r
theorem argG_mem : ∀ (bs : List (List Value)) (N : Nat) (x : Nat × Blk), x ∈ argG N bs → ∃ (j : Nat) (b : List Value), bs[j]? = some b ∧ x = (N + j, ⟨b, false⟩)
  | [], N, x, h => by cases h
  | b :: r, N, x, h => by
    rcases List.mem_cons.1 h with rfl | h
    · exact ⟨0, b, by simp, rfl⟩
    · obtain ⟨j, c, h1, h2⟩ := argG_mem r (N + 1) x h
      exact ⟨j + 1, c, by simpa using h1, by rw [h2]; congr 1; omega⟩
theorem argG_nodup : ∀ (bs : List (List Value)) (N : Nat), ((argG N bs).map (·.1)).Nodup
  | [], N => .nil
  | b :: r, N => by
    show (N :: (argG (N + 1) r).map (·.1)).Nodup
    refine List.nodup_cons.2 ⟨fun h => ?_, argG_nodup r (N + 1)⟩
    obtain ⟨x, hx, e⟩ := List.mem_map.1 h
    obtain ⟨j, c, _, rfl⟩ := argG_mem r (N + 1) x hx
    simp at e; omega
theorem st_args (G : Nat) (bs : List (List Value)) : St (lay (start G) bs) (argG G bs) := by
  have h := lay_ok bs (start G)
  refine ⟨by rw [h.floor]; rfl, h.up (start_up G), argG_nodup bs G, fun x hx => ?_, fun x hx hw => ?_⟩
  · obtain ⟨j, b, h1, rfl⟩ := argG_mem bs G x hx
    rw [h.next]
    have := (List.getElem?_eq_some_iff.1 h1).1
    show G + j < G + bs.length; omega
  · obtain ⟨j, b, h1, rfl⟩ := argG_mem bs G x hx
    have : (lay (start G) bs).get (G + j) = optB b := h.new (start_up G) j b h1
    rcases hw with hw | hw
    · cases hw
    · show (lay (start G) bs).get (G + j) = _
      rw [this]
      cases b with
      | nil => exact absurd rfl hw
      | cons _ _ => rfl

section
variable {H : Type} {enc : TypeId × Value → H} {P : Program} {W : World} [Orc]
/-- a law's call: if it answers true on whatever its types allow, it does so in the machine, and leaves what was there -/
theorem law_calls (hP : goodB P = true) (ho : OrcOk P) {f : FuncId} {ts : List TypeId} {d : Nat} (hs : ∀ t ∈ ts, supB P d t = true)
    (hk : ∀ as bs, ArgS P ts P.globals.size as bs → wCall P f as (lay (start P.globals.size) bs) fun v _ => v = .bool true)
    {base : Nat} {r : Reach} {args : Array Value} {ds : List (DataW H)} {p : List MemPlace} (hok : ∀ (j : Nat) (t : TypeId) (v : Value), ts[j]? = some t → args.toList[j]? = some v → Value.okWide P W r base t v)
    (hA : DataW.TrodAll enc P W 0 (fun _ => true) true ts args.toList ds p) : Calls P f args W fun e w' => e = .returned (.bool true) ∧ RowKit.Below W.heap.size W w' := by
  obtain ⟨as, bs, ls, h1, h2, h3, h4⟩ := open_args ts args.toList ds p hs hok hA P.globals.size
  obtain ⟨n, ex, v, H', hrun, rfl⟩ := hk as bs h1
  have hl := lay_ok bs (start P.globals.size)
  let σ : Loc := fun id => if id < P.globals.size then some (id, 0, 0) else locF P.globals.size ls id
  have hσ : ∀ id x, locF P.globals.size ls id = some x → σ id = some x := fun id x hx => by
    show (if _ then _ else _) = _
    rw [if_neg]; exact hx
    intro hlt
    unfold locF at hx
    rw [if_neg (by omega)] at hx; cases hx
  have hget : ∀ id o, (lay (start P.globals.size) bs).getO id = some o → ∃ (j : Nat) (b : List Value), id = P.globals.size + j ∧ bs[j]? = some b ∧ b ≠ [] ∧ o = .cells ⟨b, false⟩ := by
    intro id o hid
    unfold Heap.getO at hid
    rw [hl.lps] at hid
    cases hg : (lay (start P.globals.size) bs).get id with
    | none => rw [hg] at hid; cases hid
    | some x =>
      rw [hg] at hid
      cases hid
      rcases hl.out id x hg with h | ⟨j, c, e1, e2, e3⟩
      · rw [start_get] at h; cases h
      · cases c with
        | nil => cases e3
        | cons y z => cases e3; exact ⟨j, _, e1, e2, by simp, rfl⟩
  have kn : Known P W.heap.size σ (lay (start P.globals.size) bs).getO (lay (start P.globals.size) bs) W := by
    refine ⟨⟨fun id b hb => ?_, fun id b hb hw => ?_, fun i j bi bj _ hi _ hw => ?_⟩, fun id b hb => hb, Nat.le_refl _, fun g hg => ⟨0, by show (if g < P.globals.size then _ else _) = _; rw [if_pos hg]⟩, ⟨fun i hi => ?_, fun i hi => ?_⟩, by rw [hl.floor]; exact Nat.zero_le _⟩
    · obtain ⟨j, c, rfl, e2, e3, rfl⟩ := hget id b hb
      have hlt : j < ls.length := by rw [h2]; exact (List.getElem?_eq_some_iff.1 e2).1
      obtain ⟨x, hx⟩ : ∃ x, ls[j]? = some x := ⟨_, List.getElem?_eq_getElem hlt⟩
      obtain ⟨arr, ty, fr, q1, q2, q3, q4⟩ := h4 j c x e2 hx e3
      obtain ⟨x1, x2, x3⟩ := x
      refine ⟨x1, x2, x3, arr, ty, fr, hσ _ _ ?_, q1, q2, q3, q4.mono hσ, fun h => by cases h⟩
      unfold locF
      rw [if_pos (by omega), show P.globals.size + j - P.globals.size = j by omega, hx]
    · obtain ⟨j, c, _, _, _, rfl⟩ := hget id b hb; cases hw
    · obtain ⟨j, c, _, _, _, rfl⟩ := hget i bi hi; cases hw
    · cases ho : (lay (start P.globals.size) bs).getO i with
      | none => exact absurd ho hi
      | some o =>
        obtain ⟨j, c, rfl, e2, _, _⟩ := hget i o ho
        have := (List.getElem?_eq_some_iff.1 e2).1
        rw [hl.next]; show P.globals.size + j < P.globals.size + bs.length; omega
    · rw [hl.lps] at hi; exact absurd rfl hi
  have hfr : Fresh σ (lay (start P.globals.size) bs).next H'.next := by
    intro i h1 _
    rw [hl.next] at h1
    have h1 : P.globals.size + bs.length ≤ i := h1
    show (if i < P.globals.size then _ else _) = _
    rw [if_neg (by omega)]
    unfold locF
    rw [if_pos (by omega)]
    exact List.getElem?_eq_none (by omega)
  have hc := ((runO_ok (good_of hP) ho n).call f as _ ex (.bool true) H' hrun W.heap.size σ _ W args kn hfr (h3.mono hσ)).2
  refine (CallsIn.calls hc (wd_room none)).mono ?_
  rintro e w' ⟨v', τ, h', rfl, hv, hs⟩
  cases hv
  refine ⟨rfl, hs.goes.os, hs.goes.tape, hs.goes.output, hs.goes.size, fun k hk => hs.goes.keep k hk ?_⟩
  rintro ⟨id, b, _, _, hb, hw, _⟩
  obtain ⟨j, c, _, _, _, rfl⟩ := hget id b hb
  cases hw

omit [Orc] in
theorem trodAll_len {base : Nat} {sp : Nat → Bool} {hd : Bool} : ∀ {ts : List TypeId} {vs : List Value} {ds : List (DataW H)} {p : List MemPlace}, DataW.TrodAll enc P W base sp hd ts vs ds p → ds.length = ts.length
  | [], [], [], _, _ => rfl
  | [], [], _ :: _, _, h => h.elim
  | [], _ :: _, _, _, h => h.elim
  | _ :: _, [], _, _, h => h.elim
  | _ :: _, _ :: _, [], _, h => h.elim
  | _ :: _, _ :: _, _ :: _, _, ⟨_, _, _, h, _⟩ => by simp [trodAll_len h]
omit [Orc] in
theorem trodAll_below (hl : laidOutB P = true) {W' : World} (hb : RowKit.Below W.heap.size W W') : ∀ (ts : List TypeId) (vs : List Value) (ds : List (DataW H)) (p : List MemPlace), (∀ t ∈ ts, P.readableRec t = true ∧ t < P.types.size) →
    DataW.TrodAll enc P W 0 (fun _ => true) true ts vs ds p → (∀ x ∈ p, x.block < W.heap.size) → DataW.TrodAll enc P W' 0 (fun b => decide (b < W.heap.size)) true ts vs ds p
  | [], [], [], p, _, h, _ => h
  | [], [], _ :: _, p, _, h, _ => h.elim
  | [], _ :: _, _, p, _, h, _ => h.elim
  | _ :: _, [], _, p, _, h, _ => h.elim
  | _ :: _, _ :: _, [], p, _, h, _ => h.elim
  | t :: ts, v :: vs, d :: ds, p, hr, ⟨p1, q1, h1, h2, e⟩, hlt => by
    subst e
    obtain ⟨r1, r2⟩ := hr t (by simp)
    exact ⟨p1, q1, RowKit.Below.trod hl r1 r2 h1 hb fun x hx => hlt x (by simp [hx]), trodAll_below hl hb ts vs ds q1 (fun t ht => hr t (by simp [ht])) h2 fun x hx => hlt x (by simp [hx]), rfl⟩

omit [Orc] in
/-- the row's step -/
theorem post_law {f : Func} {s : ChangeSpec} {apart fresh handsOn : Bool} {W' : World} {args : Array Value} {v : Value} {ds gs : List (DataW H)} {before : List MemPlace} (hl : laidOutB P = true)
    (hrd : ∀ t ∈ f.params.toList, P.readableRec t = true ∧ t < P.types.size) (hsv : s.vars = []) (hW : DataW.Whole enc P f.params.toList s.vars apart W args.toList ds gs before) (hb : RowKit.Below W.heap.size W W')
    (hres : ∀ (b : Nat) (sp : Nat → Bool) (hd : Bool), DataW.TrodAll enc P W' b sp hd f.resultTypes.toList (v.resultList f.resultTypes.size) (s.fn H (ds ++ gs)).results [])
    (hargs : (s.fn H (ds ++ gs)).args = ds) (hvars : (s.fn H (ds ++ gs)).vars = []) : s.post enc P f apart fresh handsOn false W args v W' := by
  have hlt : ∀ x ∈ before, x.block < W.heap.size := fun x hx => hW.lt x hx
  have hW0 := hW
  obtain ⟨p, q, h1, h2, rfl, h3, h4⟩ := hW
  rw [hsv] at h2
  obtain ⟨rfl, rfl⟩ := trodVars_none h2
  refine ⟨ds, [], _, [], p, [], hW0, hres _ _ _, ?_, ?_, hb.frame _, fun h => by cases h⟩
  · rw [hargs]
    exact trodAll_below hl hb _ _ _ _ hrd h1 fun x hx => hlt x (by simp [hx])
  · rw [hsv, hvars]; exact rfl
end
end Go.Ab
