import Derived.Test.YtccblhllmplmaaaAbOps
namespace Go.Ab
open Go

section
variable {P : Program} {σ : Loc} {B : Nat} {h : Nat → Option Blk} {H H' : Heap} {w : World}

/-- block id is known as it stands in H -/
def Ag (h : Nat → Option Blk) (H : Heap) (id : Nat) : Prop := ∀ b, H.get id = some b → h id = some b
/-- what an operand leads to is known as it stands in H -/
def AgV (h : Nat → Option Blk) (H : Heap) (v : Value) : Prop := ∀ id, idOf v = some id → Ag h H id

theorem read_ok {id off n : Nat} {l : List Value} (hs : SimF σ B h w) (ha : Ag h H id) (hr : readCells H id off n = some l) {c o s : Nat} (hσ : σ id = some (c, o, s)) :
    ∃ l', (loadCells ⟨c, o + off, none⟩ n).run P w = .ok l'.toArray w ∧ VRs σ l l' ∧ l.length = n := by
  rw [readCells_eq] at hr
  cases hg : H.get id with
  | none => rw [hg] at hr; cases hr
  | some b =>
    rw [hg] at hr
    simp only [cellsAt, takeN_eq, dropN_eq, lenN_eq] at hr
    cases hq : Nat.beq ((b.cells.drop off).take n).length n with
    | false => rw [hq] at hr; cases hr
    | true =>
      rw [hq] at hr; cases hr
      have hl := Nat.eq_of_beq_eq_true hq
      obtain ⟨c', o', s', arr, ty, fr, e1, e2, e3, e4, e5, _⟩ := hs.blk id b (ha b hg)
      rw [hσ] at e1; cases e1
      have hbn : off + n ≤ b.cells.length ∨ n = 0 := by simp at hl; omega
      refine ⟨(arr.toList.drop (o + off)).take n, ?_, ?_, hl⟩
      · rcases hbn with hbn | rfl
        · exact loads_at w c (o + off) n arr ty fr e2 (by omega)
        · simp [loadCells, loadCellsFrom]
      · rcases hbn with hbn | rfl
        · have := (e5.drop off).take n
          rw [List.drop_take, List.take_take, List.drop_drop] at this
          have hm : min n (b.cells.length - off) = n := by omega
          rw [hm] at this
          exact this
        · simp; exact .nil

theorem readCell_ok {id off : Nat} {v : Value} (hs : SimF σ B h w) (ha : Ag h H id) (hr : readCell H id off = some v) {c o s : Nat} (hσ : σ id = some (c, o, s)) :
    ∃ v', (load ⟨c, o + off, none⟩).run P w = .ok v' w ∧ VR σ v v' := by
  unfold readCell at hr
  cases hg : H.get id with
  | none => rw [hg] at hr; cases hr
  | some b =>
    rw [hg] at hr
    simp only [atN_eq] at hr
    obtain ⟨c', o', s', arr, ty, fr, e1, e2, e3, e4, e5, _⟩ := hs.blk id b (ha b hg)
    rw [hσ] at e1; cases e1
    obtain ⟨v', h1, h2⟩ := e5.get off v hr
    have hlt : off < b.cells.length := (List.getElem?_eq_some_iff.1 hr).1
    refine ⟨v', ?_, h2⟩
    have hc : w.cell? ⟨c, o + off, none⟩ = some v' := by
      simp only [List.getElem?_take, hlt, if_true, List.getElem?_drop] at h1
      simp only [World.cell?, e2]
      simpa using h1
    simp [hc]

theorem one_ok {l l' : List Value} (hv : VRs σ l l') (h1 : allN oneCell l = true) : ∀ v ∈ l', v.oneCell' = true := by
  rw [allN_eq] at h1
  induction l generalizing l' with
  | nil => rw [hv.nil_inv]; simp
  | cons x r ih =>
    obtain ⟨x', r', rfl, hx, hr⟩ := hv.uncons
    rw [List.all_cons, Bool.and_eq_true] at h1
    intro v hm
    rcases List.mem_cons.1 hm with rfl | hm
    · cases hx <;> first | rfl | (exact absurd h1.1 (by simp [oneCell]))
    · exact ih hr h1.2 v hm

theorem write_ok {id off : Nat} {vs vs' : List Value} (hs : SimF σ B h w) (ha : Ag h H id) (hr : writeCells H id off vs = some H') (hv : VRs σ vs vs') {c o s : Nat} (hσ : σ id = some (c, o, s)) (n : Nat) :
    ∃ w', (storeCells ⟨c, o + off, none⟩ vs').run P w = .ok () w' ∧ Goes B σ h n w σ (upd h H H') n w' ∧ H'.next = H.next := by
  rw [writeCells_eq] at hr
  cases hg : H.get id with
  | none => rw [hg] at hr; cases hr
  | some b =>
    rw [hg] at hr
    simp only at hr
    split at hr
    · rename_i hc
      cases hr
      simp only [Bool.and_eq_true, Heap.mayWrite, lenN_eq, ble_eq, decide_eq_true_eq] at hc
      obtain ⟨⟨hw, _⟩, hlen, h1⟩ := hc
      obtain ⟨c', o', s', arr, ty, fr, e1, e2, e3, e4, e5, e6⟩ := hs.blk id b (ha b hg)
      rw [hσ] at e1; cases e1
      have hvl := hv.length
      have hst := stores_at (P := P) c (o + off) ty fr vs' 0 arr w e2 (by omega) (one_ok hv h1) (fun j hj => (e6 hw).2 j (by omega))
      refine ⟨_, hst, ?_, rfl⟩
      refine write_goes hs id off b (ha b hg) hw vs vs' hv hlen c o s arr ty fr hσ e2 _ ?_
      intro i b' hu
      simp only [appN_eq, takeN_eq, dropN_eq, lenN_eq] at hu
      unfold upd at hu
      by_cases hi : i = id
      · subst hi
        left
        refine ⟨rfl, ?_⟩
        have hsame : (Heap.set H i (some ⟨b.cells.take off ++ (vs ++ b.cells.drop (off + vs.length)), b.wr⟩)).get i = some ⟨b.cells.take off ++ (vs ++ b.cells.drop (off + vs.length)), b.wr⟩ := Tr.get_set_same _ _ _ b hg
        rw [hsame] at hu
        split at hu
        · rename_i he
          rw [hg] at he
          rw [ha b hg] at hu
          cases hu
          simp only [List.append_assoc]
          exact (Option.some.inj he).symm
        · cases hu; simp only [List.append_assoc]
      · right
        refine ⟨hi, ?_⟩
        have hsame : (Heap.set H id (some ⟨b.cells.take off ++ (vs ++ b.cells.drop (off + vs.length)), b.wr⟩)).get i = H.get i := Tr.get_set_other _ _ _ _ hi
        rw [hsame, if_pos rfl] at hu
        exact hu
    · cases hr

theorem load_ok {t : TypeId} {a a' v : Value} (hs : SimF σ B h w) (ha : AgV h H a) (hv : VR σ a a') (hr : (loadC P t).f a H = some (v, H')) :
    H' = H ∧ ∃ v', (Instr.loadAt t a').run P w = .ok v' w ∧ VR σ v v' := by
  unfold loadC at hr
  cases hq : isAggB P t with
  | none => simp [hq] at hr
  | some b =>
    cases hz : sizeB P t with
    | none => cases b <;> simp [hq, hz] at hr
    | some n =>
      have key : ∀ id off sp, a = .pointer (some ⟨id, off, sp⟩) → sp = none ∧ ∃ c o s, a' = .pointer (some ⟨c, o + off, none⟩) ∧ σ id = some (c, o, s) := by
        intro id off sp e; subst e; exact hv.ptr_inv
      cases b with
      | true =>
        simp only [hq, hz, loadAgg] at hr
        cases a <;> simp only at hr <;> try cases hr
        rename_i a0
        cases a0 with
        | none => cases hr
        | some a0 =>
          obtain ⟨id, off, sp⟩ := a0
          obtain ⟨rfl, c, o, s, rfl, hσ⟩ := key id off sp rfl
          simp only at hr
          cases hl : readCells H id off n with
          | none => rw [hl] at hr; cases hr
          | some l =>
            rw [hl] at hr; cases hr
            obtain ⟨l', h1, h2, _⟩ := read_ok (P := P) hs (ha id rfl) hl hσ
            refine ⟨rfl, .agg l'.toArray, ?_, VR.arr h2⟩
            simp [Instr.loadAt, Instr.sureAddr, loadVar, isAggB_run hq, sizeB_run hz, h1]
      | false =>
        simp only [hq, hz, loadOne] at hr
        cases a <;> simp only at hr <;> try cases hr
        rename_i a0
        cases a0 with
        | none => cases hr
        | some a0 =>
          obtain ⟨id, off, sp⟩ := a0
          obtain ⟨rfl, c, o, s, rfl, hσ⟩ := key id off sp rfl
          simp only at hr
          cases hl : readCell H id off with
          | none => rw [hl] at hr; cases hr
          | some u =>
            rw [hl] at hr; cases hr
            obtain ⟨v', h1, h2⟩ := readCell_ok (P := P) hs (ha id rfl) hl hσ
            exact ⟨rfl, v', by simp only [Instr.loadAt, Instr.sureAddr, Sem.run_bind, Sem.run_pure, Result.andThen_ok, loadVar, isAggB_run hq]; simpa using h1, h2⟩

theorem store_ok {t : TypeId} {n : Nat} (hz : sizeB P t = some n) {a a' x x' v : Value} (hs : SimF σ B h w) (ha : AgV h H a) (hv : VR σ a a') (hx : VR σ x x') (hr : storeTo n a x H = some (v, H')) :
    v = undef ∧ H'.next = H.next ∧ ∃ w', (Instr.storeAt t a' x').run P w = .ok () w' ∧ Goes B σ h H.next w σ (upd h H H') H'.next w' := by
  unfold storeTo at hr
  cases a <;> simp only at hr <;> try cases hr
  rename_i a0
  cases a0 with
  | none => cases hr
  | some a0 =>
    obtain ⟨id, off, sp⟩ := a0
    obtain ⟨rfl, c, o, s, rfl, hσ⟩ := hv.ptr_inv
    simp only at hr
    split at hr
    · rename_i hq
      cases hw : writeCells H id off (cellsL x) with
      | none => rw [hw] at hr; cases hr
      | some H1 =>
        rw [hw] at hr; cases hr
        obtain ⟨w', h1, h2, h3⟩ := write_ok (P := P) hs (ha id rfl) hw hx.cells hσ H.next
        refine ⟨rfl, h3, w', ?_, by rw [h3]; exact h2⟩
        have hlen : x'.cells.size = n := by
          have := hx.cells.length
          rw [lenN_eq] at hq
          have e := Nat.eq_of_beq_eq_true hq
          have e3 : x'.cells.toList.length = x'.cells.size := Array.length_toList
          omega
        simp only [Instr.storeAt, Instr.sureAddr, Sem.run_bind, Sem.run_pure, Result.andThen_ok, storeVar, sizeB_run hz, hlen, ne_eq, not_true_eq_false, if_false, h1, Sem.run_ite]
    · cases hr

/-! building -/
theorem fillL_ok (place : Nat → Option (Nat × Nat)) : ∀ (parts : List (Nat × Value)) (parts' : List (Nat × Value)) (cells : List Value) (cells' : Array Value) (l : List Value),
    VRs σ cells cells'.toList → parts.map (·.1) = parts'.map (·.1) → VRs σ (parts.map (·.2)) (parts'.map (·.2)) → fillL place cells parts = some l →
    ∃ l', Instr.fill place cells' parts' = some l' ∧ VRs σ l l'.toList
  | [], parts', cells, cells', l, hc, h1, _, hf => by
    cases parts' with
    | nil => cases hf; exact ⟨cells', rfl, hc⟩
    | cons _ _ => cases h1
  | (i, v) :: rest, parts', cells, cells', l, hc, h1, h2, hf => by
    cases parts' with
    | nil => cases h1
    | cons p rest' =>
      obtain ⟨i', v'⟩ := p
      simp only [List.map_cons, List.cons.injEq] at h1
      obtain ⟨rfl, h1⟩ := h1
      simp only [List.map_cons] at h2
      obtain ⟨v'', r'', e, hv, hr⟩ := h2.uncons
      cases e
      unfold fillL at hf
      unfold Instr.fill
      cases hp : place i with
      | none => rw [hp] at hf; cases hf
      | some os =>
        obtain ⟨off, size⟩ := os
        rw [hp] at hf
        simp only at hf ⊢
        split at hf
        · rename_i hq
          simp only [lenN_eq, ble_eq, Bool.and_eq_true, decide_eq_true_eq] at hq
          have e1 := Nat.eq_of_beq_eq_true hq.1
          have hcl := hv.cells
          have e2 := hcl.length
          have e3 : v'.cells.toList.length = v'.cells.size := Array.length_toList
          have e4 := hc.length
          have e5 : cells'.toList.length = cells'.size := Array.length_toList
          rw [if_neg (by simp; omega)]
          refine fillL_ok place rest rest' _ _ l ?_ h1 hr hf
          rw [appN_eq, appN_eq, takeN_eq, dropN_eq, lenN_eq]
          have key : (v'.cells.zipIdx.foldl (fun cs (x : Value × Nat) => cs.setIfInBounds (off + x.2) x.1) cells').toList = cells'.toList.take off ++ (v'.cells.toList ++ cells'.toList.drop (off + v'.cells.toList.length)) := by
            rw [← Array.foldl_toList, Array.toList_zipIdx]
            have gen : ∀ (vs : List Value) (k : Nat) (cs : Array Value), off + k + vs.length ≤ cs.size →
                ((vs.zipIdx k).foldl (fun cs (x : Value × Nat) => cs.setIfInBounds (off + x.2) x.1) cs).toList = cs.toList.take (off + k) ++ vs ++ cs.toList.drop (off + k + vs.length) := by
              intro vs
              induction vs with
              | nil => intro k cs _; simp
              | cons x r ih =>
                intro k cs hk
                simp only [List.zipIdx_cons, List.foldl_cons]
                simp only [List.length_cons] at hk
                have hi := ih (k + 1) (cs.setIfInBounds (off + k) x) (by simp; omega)
                rw [show off + (k + 1) = off + k + 1 by omega] at hi
                rw [hi, Array.toList_setIfInBounds]
                have e := list_seg_step cs.toList (off + k) x r (by simp; omega)
                simpa [Nat.add_assoc] using e
            have g := gen v'.cells.toList 0 cells' (by omega)
            simpa using g
          rw [key, ← e2]
          exact (hc.take off).append (hcl.append (hc.drop (off + (cellsL v).length)))
        · cases hf

theorem parts_map (l : List (Nat × Operand)) (T : List Value) : (evParts l T).map (·.1) = l.map (·.1) ∧ (evParts l T).map (·.2) = l.map fun p => (evC p.2).g T := by
  induction l with
  | nil => exact ⟨rfl, rfl⟩
  | cons p r ih => obtain ⟨i, o⟩ := p; exact ⟨by show i :: _ = _; simp [ih.1], by show (evC o).g T :: _ = _; simp [ih.2]⟩

theorem mapM_places (fields : Array Field) {f : Field → Option (Nat × Nat)} (hf : ∀ x ∈ fields.toList, ∃ n, f x = some (x.offset, n) ∧ ∀ w, (sizeOf x.type).run P w = .ok n w) (w : World) :
    ∃ places : Array (Nat × Nat), (fields.mapM fun (x : Field) => (do pure (x.offset, ← sizeOf x.type) : Sem (Nat × Nat))).run P w = .ok places w ∧ ∀ i : Nat, places[i]? = (fields.toList[i]?).bind f := by
  have gen : ∀ (l : List Field), (∀ x ∈ l, ∃ n, f x = some (x.offset, n) ∧ ∀ w, (sizeOf x.type).run P w = .ok n w) →
      ∃ ps : List (Nat × Nat), (l.mapM fun (x : Field) => (do pure (x.offset, ← sizeOf x.type) : Sem (Nat × Nat))).run P w = .ok ps w ∧ ∀ i : Nat, ps[i]? = (l[i]?).bind f := by
    intro l
    induction l with
    | nil => intro _; exact ⟨[], by simp, by simp⟩
    | cons x r ih =>
      intro hx
      obtain ⟨n, h1, h2⟩ := hx x (by simp)
      obtain ⟨ps, h3, h4⟩ := ih fun y hy => hx y (by simp [hy])
      refine ⟨(x.offset, n) :: ps, ?_, ?_⟩
      · simp only [List.mapM_cons, Sem.run_bind, h2 w, Result.andThen_ok, Sem.run_pure, h3]
      · intro i
        cases i with
        | zero => simp [h1]
        | succ i => simpa using h4 i
  obtain ⟨ps, h1, h2⟩ := gen fields.toList hf
  refine ⟨ps.toArray, ?_, by simpa using h2⟩
  rw [Array.mapM_eq_mapM_toList]
  simp only [Sem.run_map, h1, Result.andThen_ok]

theorem cellsL_self {z : Value} : z.cells.toList = cellsL z := by cases z <;> rfl

theorem buildC_ok {t : TypeId} {parts parts' : List (Nat × Value)} {v : Value} (hr : (buildC P t).f parts = some v) (h1 : parts.map (·.1) = parts'.map (·.1)) (h2 : VRs σ (parts.map (·.2)) (parts'.map (·.2))) (w : World) :
    ∃ v', (Instr.build t parts'.toArray).run P w = .ok v' w ∧ VR σ v v' := by
  unfold buildC at hr
  cases hz : zeroB P t with
  | none => rw [hz] at hr; cases hr
  | some z =>
    obtain ⟨z1, z2⟩ := zeroB_run hz w
    have zc : VRs σ (cellsL z) z.cells.toList := (constOk_VR z2).cells
    rw [hz] at hr
    simp only at hr
    cases hu : P.underlying t with
    | none => rw [hu] at hr; cases hr
    | some td =>
      rw [hu] at hr
      cases td <;> simp only at hr <;> try cases hr
      case struct fields =>
        split at hr
        · rename_i hall
          rw [allN_eq, List.all_eq_true] at hall
          simp only at hr
          let f : Field → Option (Nat × Nat) := fun x => (sizeB P x.type).map fun n => (x.offset, n)
          obtain ⟨places, p1, p2⟩ := mapM_places (P := P) fields (f := f) (fun x hx => by
            have := hall x hx
            cases hs : sizeB P x.type with
            | none => rw [hs] at this; cases this
            | some n => exact ⟨n, by simp [f, hs], fun w => sizeB_run hs w⟩) w
          have hpl : (fun i : Nat => places[i]?) = fieldPlaceB P fields.toList := by
            funext i
            rw [p2 i]
            unfold fieldPlaceB
            rw [atN_eq]
            cases fields.toList[i]? with
            | none => rfl
            | some x => simp only [Option.bind_some, f]; cases sizeB P x.type <;> rfl
          cases hf : fillL (fieldPlaceB P fields.toList) (cellsL z) parts with
          | none => rw [hf] at hr; cases hr
          | some l =>
            rw [hf] at hr; cases hr
            obtain ⟨l', f1, f2⟩ := fillL_ok _ parts parts' _ _ l zc h1 h2 hf
            rw [← hpl] at f1
            refine ⟨.agg l', ?_, .agg _ _ (by simpa using f2) .nil⟩
            simp only [Instr.build, Sem.run_bind, z1, Result.andThen_ok, run_underlying hu, p1]
            simp only [f1]
            rfl
        · cases hr
      case array n e =>
        cases hs : sizeB P e with
        | none => rw [hs] at hr; cases hr
        | some size =>
          rw [hs] at hr
          simp only at hr
          cases hf : fillL (fun i => some (i * size, size)) (cellsL z) parts with
          | none => rw [hf] at hr; cases hr
          | some l =>
            rw [hf] at hr; cases hr
            obtain ⟨l', f1, f2⟩ := fillL_ok _ parts parts' _ _ l zc h1 h2 hf
            refine ⟨.agg l', ?_, .agg _ _ (by simpa using f2) .nil⟩
            simp only [Instr.build, Sem.run_bind, z1, Result.andThen_ok, run_underlying hu, sizeB_run hs]
            simp only [f1]
            rfl

theorem repl_eq (n : Nat) (z : Array Value) : ((Array.range (n * z.size)).map fun i => z[i % z.size]!).toList = repl n z.toList := by
  have key : ∀ (n : Nat), (List.range (n * z.size)).map (fun i => z[i % z.size]!) = repl n z.toList := by
    intro n
    induction n with
    | zero => simp [repl]
    | succ n ih =>
      rw [show repl (n + 1) z.toList = z.toList ++ repl n z.toList by show appN _ _ = _; rw [appN_eq]]
      rw [Nat.succ_mul, Nat.add_comm, List.range_add, List.map_append, List.map_map]
      congr 1
      · apply List.ext_getElem?
        intro i
        by_cases hi : i < z.size
        · simp [hi, Nat.mod_eq_of_lt hi]
        · simp [hi]
      · rw [← ih]
        apply List.map_congr_left
        intro i _
        simp [Nat.add_mod_left]
  rw [Array.toList_map, Array.toList_range]
  exact key n

theorem VRs.repl (n : Nat) {l l' : List Value} (hl : VRs σ l l') : VRs σ (repl n l) (repl n l') := by
  induction n with
  | zero => exact .nil
  | succ n ih =>
    have e : ∀ m : List Value, Ab.repl (n + 1) m = m ++ Ab.repl n m := fun m => by show appN _ _ = _; rw [appN_eq]
    rw [e, e]
    exact hl.append ih
theorem repl_length (n : Nat) (l : List Value) : (repl n l).length = n * l.length := by
  induction n with
  | zero => simp [repl]
  | succ n ih => rw [show repl (n + 1) l = l ++ repl n l by show appN _ _ = _; rw [appN_eq], List.length_append, ih, Nat.succ_mul, Nat.add_comm]
end
end Go.Ab
