import Derived.Test.YtccblhllmplmaaaAbFin
import Derived.Deep.Slices
import Derived.Carry
namespace Go.Ab
open Go Go.ChangeShapes Go.WideShapes
set_option linter.unusedVariables false

/-- what the cells of an argument hold, by their types; each slice with something in it has a block of its own, from number N on -/
inductive ShpL (P : Program) : List TypeId → Nat → List Value → List (List Value) → Prop
  | nil {N : Nat} : ShpL P [] N [] []
  | bool {t : TypeId} {ts : List TypeId} {N : Nat} {c : List Value} {b : List (List Value)} (v : Bool) : P.underlying t = some .bool → ShpL P ts N c b → ShpL P (t :: ts) N (.bool v :: c) b
  | int {t : TypeId} {ts : List TypeId} {N : Nat} {c : List Value} {b : List (List Value)} {k : IntKind} (v : Int) : P.underlying t = some (.int k) → (Lit.int k v).wf = true → ShpL P ts N c b → ShpL P (t :: ts) N (.int k v :: c) b
  | str {t : TypeId} {ts : List TypeId} {N : Nat} {c : List Value} {b : List (List Value)} (v : ByteArray) : P.underlying t = some .string → v.size ≤ maxLen → ShpL P ts N c b → ShpL P (t :: ts) N (.string v :: c) b
  | slNil {t e : TypeId} {ts : List TypeId} {N : Nat} {c : List Value} {b : List (List Value)} : P.underlying t = some (.slice e) → ShpL P ts N c b → ShpL P (t :: ts) N (.slice none 0 0 :: c) b
  | sl {t e : TypeId} {ts : List TypeId} {N : Nat} {c cells : List Value} {b bs : List (List Value)} (len : Nat) : P.underlying t = some (.slice e) → len ≤ maxLen → cells.length = len * P.cellsOf e → ShpL P (List.replicate len e) (N + 1) cells bs → ShpL P ts (N + 1 + bs.length) c b →
      ShpL P (t :: ts) N (.slice (some ⟨N, 0, none⟩) len (2 * P.cellsOf e) :: c) (cells :: (bs ++ b))
  | struct {t : TypeId} {fs : Array Field} {ts : List TypeId} {N : Nat} {c : List Value} {b : List (List Value)} : P.underlying t = some (.struct fs) → ShpL P (fs.toList.map (·.type) ++ ts) N c b → ShpL P (t :: ts) N c b
  | array {t e : TypeId} {n : Nat} {ts : List TypeId} {N : Nat} {c : List Value} {b : List (List Value)} : P.underlying t = some (.array n e) → ShpL P (List.replicate n e ++ ts) N c b → ShpL P (t :: ts) N c b

theorem ShpL.append {P : Program} {ts ts' : List TypeId} {N : Nat} {c c' : List Value} {b b' : List (List Value)} (h : ShpL P ts N c b) (h' : ShpL P ts' (N + b.length) c' b') : ShpL P (ts ++ ts') N (c ++ c') (b ++ b') := by
  induction h with
  | nil => exact h'
  | bool v hu _ ih => exact .bool v hu (ih h')
  | int v hu hw _ ih => exact .int v hu hw (ih h')
  | str v hu hw _ ih => exact .str v hu hw (ih h')
  | slNil hu _ ih => exact .slNil hu (ih h')
  | @sl t e ts N c cells b bs len hu hm hl h1 h2 _ ih =>
    have e1 : (cells :: (bs ++ b)) ++ b' = cells :: (bs ++ (b ++ b')) := by simp
    rw [e1]
    refine .sl len hu hm hl h1 (ih ?_)
    simp only [List.length_cons, List.length_append] at h'
    rw [show N + 1 + bs.length + b.length = N + (bs.length + b.length + 1) by omega]; exact h'
  | struct hu _ ih => refine .struct hu ?_; have := ih h'; rwa [List.append_assoc] at this
  | array hu _ ih => refine .array hu ?_; have := ih h'; rwa [List.append_assoc] at this

/-- the types that an argument may be of -/
def contigB (P : Program) : List Field → Nat → Bool
  | [], _ => true
  | f :: fs, o => Nat.beq f.offset o && contigB P fs (o + P.cellsOf f.type)
def sumB (P : Program) : List Field → Nat
  | [] => 0
  | f :: fs => P.cellsOf f.type + sumB P fs
def supB (P : Program) : Nat → TypeId → Bool
  | 0, _ => false
  | d + 1, t => match P.underlying t with
    | some .bool => Nat.beq (P.cellsOf t) 1
    | some (.int _) => Nat.beq (P.cellsOf t) 1
    | some .string => Nat.beq (P.cellsOf t) 1
    | some (.slice e) => Nat.beq (P.cellsOf t) 1 && (Nat.blt 0 (P.cellsOf e) && supB P d e)
    | some (.struct fs) => contigB P fs.toList 0 && (Nat.beq (sumB P fs.toList) (P.cellsOf t) && fs.toList.all fun f => supB P d f.type)
    | some (.array n e) => Nat.beq (n * P.cellsOf e) (P.cellsOf t) && supB P d e
    | _ => false

def locF (N : Nat) (ls : List (Nat × Nat × Nat)) : Loc := fun id => if N ≤ id then ls[id - N]? else none
theorem locF_left {N : Nat} {l1 l2 : List (Nat × Nat × Nat)} : ∀ id x, locF N l1 id = some x → locF N (l1 ++ l2) id = some x := by
  intro id x h
  unfold locF at h ⊢
  split at h
  · rename_i hn
    rw [if_pos hn, List.getElem?_append_left (List.getElem?_eq_some_iff.1 h).1]; exact h
  · cases h
theorem locF_right {N : Nat} {l1 l2 : List (Nat × Nat × Nat)} : ∀ id x, locF (N + l1.length) l2 id = some x → locF N (l1 ++ l2) id = some x := by
  intro id x h
  unfold locF at h ⊢
  split at h
  · rename_i hn
    rw [if_pos (by omega), List.getElem?_append_right (by omega)]
    rw [show id - N - l1.length = id - (N + l1.length) by omega]; exact h
  · cases h

/-- the blocks lie where they are said to -/
def BlkAt (σ : Loc) (w : World) (b : List Value) (x : Nat × Nat × Nat) : Prop :=
  b ≠ [] → ∃ arr ty fr, w.heap[x.1]? = some (.cells arr ty fr) ∧ arr.size = x.2.2 ∧ x.2.1 + b.length ≤ x.2.2 ∧ VRs σ b ((arr.toList.drop x.2.1).take b.length)
structure Opened (P : Program) (w : World) (ts : List TypeId) (N : Nat) (cs as : List Value) (bs : List (List Value)) (ls : List (Nat × Nat × Nat)) : Prop where
  shp : ShpL P ts N as bs
  len : ls.length = bs.length
  vr : VRs (locF N ls) as cs
  at' : ∀ (i : Nat) (b : List Value) (x : Nat × Nat × Nat), bs[i]? = some b → ls[i]? = some x → BlkAt (locF N ls) w b x
theorem BlkAt.mono {σ τ : Loc} {w : World} {b : List Value} {x : Nat × Nat × Nat} (hm : ∀ id x, σ id = some x → τ id = some x) (h : BlkAt σ w b x) : BlkAt τ w b x := fun hb => by
  obtain ⟨arr, ty, fr, h1, h2, h3, h4⟩ := h hb
  exact ⟨arr, ty, fr, h1, h2, h3, h4.mono hm⟩

section
variable {H : Type} {enc : TypeId × Value → H} {P : Program} {w : World}
theorem Opened.none {N : Nat} {w : World} : Opened P w [] N [] [] [] [] := ⟨.nil, rfl, .nil, fun i b x h => by simp at h⟩
theorem Opened.append {ts ts' : List TypeId} {N : Nat} {cs cs' as as' : List Value} {bs bs' : List (List Value)} {ls ls' : List (Nat × Nat × Nat)} (h : Opened P w ts N cs as bs ls) (h' : Opened P w ts' (N + bs.length) cs' as' bs' ls') :
    Opened P w (ts ++ ts') N (cs ++ cs') (as ++ as') (bs ++ bs') (ls ++ ls') := by
  have hr : ∀ id x, locF (N + bs.length) ls' id = some x → locF N (ls ++ ls') id = some x := by rw [← h.len]; exact locF_right
  refine ⟨h.shp.append h'.shp, by rw [List.length_append, List.length_append, h.len, h'.len], (h.vr.mono locF_left).append (h'.vr.mono hr), fun i b x hb hx => ?_⟩
  by_cases hi : i < bs.length
  · rw [List.getElem?_append_left hi] at hb
    rw [List.getElem?_append_left (by rw [h.len]; exact hi)] at hx
    exact (h.at' i b x hb hx).mono locF_left
  · rw [List.getElem?_append_right (by omega)] at hb
    rw [List.getElem?_append_right (by rw [h.len]; omega), h.len] at hx
    exact (h'.at' _ b x hb hx).mono hr

abbrev RdT (enc : TypeId × Value → H) (P : Program) (w : World) (t : TypeId) (cs : List Value) : Prop := ∃ fuel x, DataW.trod enc P w 0 (fun _ => true) true fuel t cs = some x
theorem open_rep {e : TypeId} {sz : Nat} (hone : ∀ cs, RdT enc P w e cs → cs.length = sz → ∀ N, ∃ as bs ls, Opened P w [e] N cs as bs ls) : ∀ (n : Nat) (L : List Value), L.length = n * sz → (∀ i, i < n → RdT enc P w e ((L.drop (i * sz)).take sz)) → ∀ N, ∃ as bs ls, Opened P w (List.replicate n e) N L as bs ls
  | 0, L, hl, _, N => by
    have : L = [] := List.length_eq_zero_iff.1 (by omega)
    subst this
    exact ⟨_, _, _, Opened.none⟩
  | n + 1, L, hl, h, N => by
    have hl' : sz ≤ L.length := by rw [hl, Nat.succ_mul]; omega
    obtain ⟨as, bs, ls, h1⟩ := hone (L.take sz) (by have := h 0 (by omega); simpa using this) (by rw [List.length_take]; omega) N
    obtain ⟨as', bs', ls', h2⟩ := open_rep hone n (L.drop sz) (by rw [List.length_drop, hl, Nat.succ_mul]; omega) (fun i hi => by
      have := h (i + 1) (by omega)
      rw [List.drop_drop]
      rwa [show (i + 1) * sz = sz + i * sz by rw [Nat.succ_mul]; omega] at this) (N + bs.length)
    have := h1.append h2
    rw [List.take_append_drop] at this
    exact ⟨_, _, _, this⟩
theorem open_fields : ∀ (fs : List Field) (o : Nat) (cs : List Value), contigB P fs o = true → cs.length = o + sumB P fs → (∀ f ∈ fs, ∀ ds, RdT enc P w f.type ds → ds.length = P.cellsOf f.type → ∀ N, ∃ as bs ls, Opened P w [f.type] N ds as bs ls) →
    (∀ f ∈ fs, RdT enc P w f.type ((cs.drop f.offset).take (P.cellsOf f.type))) → ∀ N, ∃ as bs ls, Opened P w (fs.map (·.type)) N (cs.drop o) as bs ls
  | [], o, cs, _, hl, _, _, N => by
    have : cs.drop o = [] := List.drop_eq_nil_of_le (by have : sumB P [] = 0 := rfl; omega)
    rw [this]
    exact ⟨_, _, _, Opened.none⟩
  | f :: fs, o, cs, hc, hl, hone, h, N => by
    have hc : (Nat.beq f.offset o && contigB P fs (o + P.cellsOf f.type)) = true := hc
    rw [Bool.and_eq_true] at hc
    have ho := Nat.eq_of_beq_eq_true hc.1
    have hs : sumB P (f :: fs) = P.cellsOf f.type + sumB P fs := rfl
    rw [hs] at hl
    have h0 := h f (by simp)
    rw [ho] at h0
    obtain ⟨as, bs, ls, h1⟩ := hone f (by simp) _ h0 (by rw [List.length_take, List.length_drop]; omega) N
    obtain ⟨as', bs', ls', h2⟩ := open_fields fs (o + P.cellsOf f.type) cs hc.2 (by omega) (fun g hg => hone g (by simp [hg])) (fun g hg => h g (by simp [hg])) (N + bs.length)
    have := h1.append h2
    rw [← List.drop_drop, List.take_append_drop] at this
    exact ⟨_, _, _, this⟩

theorem cell_arr {a : Addr} {v : Value} {w : World} (h : w.cell? a = some v) : ∃ arr ty fr, w.heap[a.block]? = some (.cells arr ty fr) ∧ a.spot = none ∧ arr[a.off]? = some v := by
  unfold World.cell? at h
  split at h
  · rename_i arr ty fr hh
    split at h
    · cases h
    · rename_i hs
      refine ⟨arr, ty, fr, hh, ?_, h⟩
      cases hsp : a.spot with
      | none => rfl
      | some _ => rw [hsp] at hs; exact absurd rfl hs
  · cases h

theorem open_one : ∀ (d : Nat) (t : TypeId) (cs : List Value), supB P d t = true → RdT enc P w t cs → cs.length = P.cellsOf t → ∀ N, ∃ as bs ls, Opened P w [t] N cs as bs ls
  | 0, _, _, hs, _, _, _ => by cases hs
  | d + 1, t, cs, hs, ⟨fuel, x, h⟩, hlen, N => by
    have hs0 := hs
    unfold supB at hs
    split at hs <;> try (cases hs; done)
    · rename_i hu
      obtain ⟨b, rfl, _⟩ := DataW.trod_bool hu h
      exact ⟨_, _, [], ⟨.bool b hu .nil, rfl, .bool b .nil, fun i b x hb => by simp at hb⟩⟩
    · rename_i k hu
      obtain ⟨n, rfl, _, hw⟩ := DataW.trod_int hu h
      exact ⟨_, _, [], ⟨.int n hu hw .nil, rfl, .int k n .nil, fun i b x hb => by simp at hb⟩⟩
    · rename_i hu
      obtain ⟨s, rfl, _, hw⟩ := DataW.trod_string hu h
      exact ⟨_, _, [], ⟨.str s hu hw .nil, rfl, .string s .nil, fun i b x hb => by simp at hb⟩⟩
    · rename_i e hu
      simp only [Bool.and_eq_true, blt_eq, decide_eq_true_eq] at hs
      obtain ⟨_, hpos, hse⟩ := hs
      rcases Go.Deep.open_slice hu h with ⟨rfl, _⟩ | ⟨a, len, cap, m, n, D, Pl, rfl, hb, hl, hm, hmm, _, hel⟩
      · exact ⟨_, _, [], ⟨.slNil hu .nil, rfl, .slNil .nil, fun i b x hb => by simp at hb⟩⟩
      · simp only [if_true] at hmm
        subst hmm
        by_cases hc0 : m = 0
        · -- nothing there at all
          subst hc0
          have hl0 : len = 0 := by omega
          subst hl0
          refine ⟨_, _, [(0, 0, 0)], ⟨.sl 0 hu (Nat.zero_le _) (by simp) .nil .nil, rfl, ?_, fun i b x hb hx => ?_⟩⟩
          · exact .slOpen N 0 0 (P.cellsOf e) 0 0 0 0 a (by simp [locF]) hpos (Nat.le_refl _) (.inr ⟨rfl, rfl⟩) .nil
          · cases i with
            | zero => simp at hb; subst hb; intro hne; exact absurd rfl hne
            | succ i => simp at hb
        · -- the block
          have hcell : ∀ i, i < m → ∃ cs', w.cells? 0 (a.add (i * P.cellsOf e)) (P.cellsOf e) = some cs' ∧ RdT enc P w e cs' := fun i hi => by
            obtain ⟨cs', h1, h2⟩ := hel i hi
            exact ⟨cs', h1, _, _, h2⟩
          obtain ⟨cs0, hcs0, _⟩ := hcell 0 (by omega)
          obtain ⟨_, hcl0, hat0⟩ := World.cells?_some hcs0
          have hv0 := hat0 0 hpos
          obtain ⟨v0, hv0'⟩ : ∃ v, cs0[0]? = some v := ⟨_, List.getElem?_eq_getElem (by omega)⟩
          rw [hv0'] at hv0
          obtain ⟨arr, ty, fr, hh, hsp, _⟩ := cell_arr hv0
          have e0 : ((a.add (0 * P.cellsOf e)).add 0) = a := by simp [Addr.add]
          rw [e0] at hh hsp
          have hget : ∀ i j, i < m → j < P.cellsOf e → ∃ cs', w.cells? 0 (a.add (i * P.cellsOf e)) (P.cellsOf e) = some cs' ∧ cs'[j]? = arr[a.off + (i * P.cellsOf e + j)]? := by
            intro i j hi hj
            obtain ⟨cs', h1, _⟩ := hcell i hi
            obtain ⟨_, h2, h3⟩ := World.cells?_some h1
            refine ⟨cs', h1, ?_⟩
            rw [← h3 j hj, Go.Deep.add_add]
            unfold World.cell?
            have hb2 : (a.add (i * P.cellsOf e + j)).block = a.block := by unfold Addr.add; split <;> rfl
            have ho2 : (a.add (i * P.cellsOf e + j)).off = a.off + (i * P.cellsOf e + j) := by unfold Addr.add; split <;> simp_all
            have hs2 : (a.add (i * P.cellsOf e + j)).spot = none := by unfold Addr.add; split <;> first | exact hsp | rfl
            rw [hb2, hh]
            simp only [hs2, ho2, Option.isSome_none, Bool.false_eq_true, if_false]
          have hfit : a.off + m * P.cellsOf e ≤ arr.size := by
            obtain ⟨cs', h1, h2⟩ := hget (m - 1) (P.cellsOf e - 1) (by omega) (by omega)
            obtain ⟨_, h3, _⟩ := World.cells?_some h1
            rw [List.getElem?_eq_getElem (by omega)] at h2
            have := (Array.getElem?_eq_some_iff.1 h2.symm).1
            have e1 : (m - 1) * P.cellsOf e + P.cellsOf e = m * P.cellsOf e := by
              rw [← Nat.succ_mul]; congr 1; omega
            omega
          have hle := Nat.mul_le_mul_right (P.cellsOf e) hl
          let L := (arr.toList.drop a.off).take (len * P.cellsOf e)
          have hL : L.length = len * P.cellsOf e := by simp only [L, List.length_take, List.length_drop, Array.length_toList]; omega
          have hLi : ∀ i, i < len → RdT enc P w e ((L.drop (i * P.cellsOf e)).take (P.cellsOf e)) := by
            intro i hi
            obtain ⟨cs', h1, h2⟩ := hcell i (by omega)
            obtain ⟨_, h3, _⟩ := World.cells?_some h1
            have hie : (i + 1) * P.cellsOf e ≤ len * P.cellsOf e := Nat.mul_le_mul_right _ hi
            rw [Nat.succ_mul] at hie
            have : (L.drop (i * P.cellsOf e)).take (P.cellsOf e) = cs' := by
              apply List.ext_getElem?
              intro j
              rw [List.getElem?_take]
              split
              · rename_i hj
                obtain ⟨cs'', g1, g2⟩ := hget i j (by omega) hj
                rw [h1] at g1; cases g1
                rw [g2, List.getElem?_drop]
                simp only [L, List.getElem?_take, List.getElem?_drop]
                rw [if_pos (by omega)]
                simp
              · rename_i hj
                symm; apply List.getElem?_eq_none; omega
            rw [this]; exact h2
          obtain ⟨as, bs, ls, ho⟩ := open_rep (fun ds hr hl' N => open_one d e ds hse hr hl' N) len L hL hLi (N + 1)
          have hasl : as.length = len * P.cellsOf e := by rw [ho.vr.length, hL]
          have hrt : ∀ id x, locF (N + 1) ls id = some x → locF N ((a.block, a.off, arr.size) :: ls) id = some x := fun id x hx => locF_right (l1 := [(a.block, a.off, arr.size)]) id x hx
          refine ⟨_, _, (a.block, a.off, arr.size) :: ls, ⟨.sl len hu (by omega) hasl ho.shp .nil, by simp [ho.len], ?_, fun i b x hb hx => ?_⟩⟩
          · refine .slOpen N 0 len (P.cellsOf e) m a.block a.off arr.size a (by simp [locF]) hpos hl (.inl ⟨?_, by omega⟩) .nil
            obtain ⟨bk, of, sp⟩ := a
            simp only at hsp
            subst hsp
            simp
          · cases i with
            | zero =>
              simp at hb hx
              subst hb; subst hx
              intro _
              refine ⟨arr, ty, fr, hh, rfl, by rw [hasl]; show a.off + _ ≤ arr.size; omega, ?_⟩
              rw [hasl]
              exact ho.vr.mono hrt
            | succ i =>
              simp at hb hx
              exact (ho.at' i b x hb hx).mono hrt
    · rename_i fs hu
      rw [Bool.and_eq_true, Bool.and_eq_true, List.all_eq_true] at hs
      obtain ⟨h1, h2, h3⟩ := hs
      have h2 := Nat.eq_of_beq_eq_true h2
      obtain ⟨xs, n, _, _, _, hxl, hf⟩ := DataW.trod_struct hu h
      obtain ⟨as, bs, ls, ho⟩ := open_fields (enc := enc) (w := w) fs.toList 0 cs h1 (by omega) (fun f hf' ds hr hl' N => open_one d f.type ds (h3 f hf') hr hl' N) (fun f hf' => by
        obtain ⟨i, hi⟩ := List.mem_iff_getElem?.1 hf'
        have hi' : fs[i]? = some f := by simpa using hi
        have hlt : i < xs.length := by rw [hxl]; exact (Array.getElem?_eq_some_iff.1 hi').1
        have := hf i f hi'
        rw [List.getElem?_eq_getElem hlt] at this
        exact ⟨n, _, this⟩) N
      rw [List.drop_zero] at ho
      exact ⟨as, bs, ls, ⟨.struct hu (by rw [List.append_nil]; exact ho.shp), ho.len, ho.vr, ho.at'⟩⟩
    · rename_i n e hu
      rw [Bool.and_eq_true] at hs
      have h1 := Nat.eq_of_beq_eq_true hs.1
      obtain ⟨xs, m, _, _, _, hxl, hf⟩ := DataW.trod_array hu h
      obtain ⟨as, bs, ls, ho⟩ := open_rep (enc := enc) (w := w) (fun ds hr hl' N => open_one d e ds hs.2 hr hl' N) n cs (by omega) (fun i hi => by
        have := hf i hi
        rw [List.getElem?_eq_getElem (by omega)] at this
        exact ⟨m, _, this⟩) N
      exact ⟨as, bs, ls, ⟨.array hu (by rw [List.append_nil]; exact ho.shp), ho.len, ho.vr, ho.at'⟩⟩
end
end Go.Ab
