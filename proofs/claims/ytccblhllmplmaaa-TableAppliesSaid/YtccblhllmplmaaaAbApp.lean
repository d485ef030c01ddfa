import Derived.Test.YtccblhllmplmaaaAbMem3
namespace Go.Ab
open Go

section
variable {P : Program} {σ : Loc} {B : Nat} {h : Nat → Option Blk} {H H' : Heap} {w : World}

theorem zeroCells_length (z : Array Value) (n : Nat) : (Builtin.zeroCells z n).toList.length = n * z.size := by simp [Builtin.zeroCells]

/-- a new array for what was there, and what is appended -/
theorem grow_ok {sT xT ty e : TypeId} (hu : P.underlying sT = some (.slice e)) (hx : sliceOrString P xT = true) {i : TypeInfo} (hi : P.info? e = some i) {z : Value} (hz : zeroB P e = some z)
    (hzl : z.cells.size = i.size) (sa : Option Addr) (len cap n : Nat) (x : Value) (old new : List Value) (hlen : (Builtin.lenOf x).run P w = .ok n w) (hcap : cap < len + n) (hroom : roomB (len + n) i.bytes = true)
    (hold : (Builtin.firstCells i.size len (.slice sa len cap)).run P { w with drawn := w.drawn + 1 } = .ok old.toArray { w with drawn := w.drawn + 1 }) (hnew : (Builtin.firstCells i.size n x).run P { w with drawn := w.drawn + 1 } = .ok new.toArray { w with drawn := w.drawn + 1 }) :
    ∃ (rest : List Value) (nc : Nat), len + n ≤ nc ∧ rest.length = (nc - (len + n)) * i.size ∧ (Builtin.append_ #[sT, xT] ty #[.slice sa len cap, x]).run P w =
      .ok (.slice (some ⟨w.heap.size, 0, none⟩) (len + n) nc) { w with heap := w.heap.push (.cells (old ++ new ++ rest).toArray e (0, 0)), drawn := w.drawn + 1 } := by
  obtain ⟨z1, _⟩ := zeroB_run (P := P) hz { w with drawn := w.drawn + 1 }
  simp only [roomB, Bool.and_eq_true, ble_eq, decide_eq_true_eq] at hroom
  obtain ⟨r1, r2⟩ := hroom
  let nc := (len + n) + (w.tape w.drawn (.appendCap (len + n) cap e)) % (2 ^ 63 - (len + n))
  refine ⟨(Builtin.zeroCells z.cells (nc - (len + n))).toList, nc, by omega, by rw [zeroCells_length, hzl], ?_⟩
  have hxu : ∃ d, P.underlying xT = some d ∧ (match d with | .int _ => true | _ => false) = false := by
    unfold sliceOrString at hx
    cases hux : P.underlying xT with
    | none => rw [hux] at hx; cases hx
    | some d => exact ⟨d, rfl, by rw [hux] at hx; cases d <;> first | rfl | (simp at hx)⟩
  obtain ⟨dx, hux, hxd⟩ := hxu
  have hi1 : (typeInfo e).run P w = .ok i w := by simp [typeInfo, hi]
  have hs1 : (sizeOf e).run P w = .ok i.size w := by simp [sizeOf, typeInfo, hi]
  have hnx : ¬ Builtin.nextslicecap (len + n) cap * i.bytes > 2 ^ 48 := by
    have := nextslicecap_le hcap
    have h2 := Nat.mul_le_mul_right i.bytes this
    have e2 : 2 ^ 48 = 281474976710656 := by decide
    omega
  have hmax : ¬ (((len + n : Nat) : Int) > IntKind.i64.max ∧ (False ∨ i.bytes = 0)) := by
    have e : IntKind.i64.max = 9223372036854775807 := by decide
    rw [e]; omega
  have hq : (Question.appendCap (len + n) cap e).forced = false := rfl
  have hcut : (Question.appendCap (len + n) cap e).cut (w.tape w.drawn (.appendCap (len + n) cap e)) = nc := rfl
  simp only [Builtin.append_, List.getElem?_toArray, List.getElem?_cons_zero, List.getElem?_cons_succ, Sem.run_bind, run_underlying hu, run_underlying hux, Result.andThen_ok, hs1, Sem.run_pure]
  cases dx <;> simp only [] at hxd <;> try cases hxd
  all_goals
    simp only [Sem.run_bind, Result.andThen_ok, Bool.false_eq_true, if_false, hlen]
    rw [Sem.run_ite, if_neg (by omega)]
    simp only [Sem.run_bind, hi1, Result.andThen_ok, Sem.run_ite]
    rw [if_neg hmax, if_neg hnx]
    simp only [run_choose, hq, hcut, Bool.false_eq_true, if_false, Result.andThen_ok, Sem.run_pure]
    simp only [typeInfo, hi, Sem.run_bind, run_program, Result.andThen_ok, Sem.run_pure, run_askRoom, hold, hnew, z1, Bool.not_false, if_true, newRow, run_newObj]
    congr 2
    apply congrArg (fun a => w.heap.push (Obj.cells a e (0, 0)))
    apply Array.ext'
    simp

/-- room behind the slice: what is appended is written there -/
theorem room_ok {sT xT ty e : TypeId} (hu : P.underlying sT = some (.slice e)) (hx : sliceOrString P xT = true) {size : Nat} (hi : sizeB P e = some size) (a : Addr) (len cap n : Nat) (x : Value) (new : List Value)
    (hlen : (Builtin.lenOf x).run P w = .ok n w) (hcap : len + n ≤ cap) (hnew : (Builtin.firstCells size n x).run P w = .ok new.toArray w) {w' : World} (hst : (storeCells (a.add (len * size)) new).run P w = .ok () w') :
    (Builtin.append_ #[sT, xT] ty #[.slice (some a) len cap, x]).run P w = .ok (.slice (some a) (len + n) cap) w' := by
  have hxu : ∃ d, P.underlying xT = some d ∧ (match d with | .int _ => true | _ => false) = false := by
    unfold sliceOrString at hx
    cases hux : P.underlying xT with
    | none => rw [hux] at hx; cases hx
    | some d => exact ⟨d, rfl, by rw [hux] at hx; cases d <;> first | rfl | (simp at hx)⟩
  obtain ⟨dx, hux, hxd⟩ := hxu
  simp only [Builtin.append_, List.getElem?_toArray, List.getElem?_cons_zero, List.getElem?_cons_succ, Sem.run_bind, run_underlying hu, run_underlying hux, Result.andThen_ok, sizeB_run hi, Sem.run_pure]
  cases dx <;> simp only [] at hxd <;> try cases hxd
  all_goals
    simp only [Sem.run_bind, Result.andThen_ok, Bool.false_eq_true, if_false, hlen]
    rw [Sem.run_ite, if_pos hcap]
    simp only [Sem.run_bind, Bool.not_false, if_true, hnew, Result.andThen_ok, hst, Sem.run_pure]
theorem room_nil {sT xT ty e : TypeId} (hu : P.underlying sT = some (.slice e)) (hx : sliceOrString P xT = true) {size : Nat} (hi : sizeB P e = some size) (x : Value) (new : List Value)
    (hlen : (Builtin.lenOf x).run P w = .ok 0 w) (hnew : (Builtin.firstCells size 0 x).run P w = .ok new.toArray w) :
    (Builtin.append_ #[sT, xT] ty #[.slice none 0 0, x]).run P w = .ok (.slice none 0 0) w := by
  have hxu : ∃ d, P.underlying xT = some d ∧ (match d with | .int _ => true | _ => false) = false := by
    unfold sliceOrString at hx
    cases hux : P.underlying xT with
    | none => rw [hux] at hx; cases hx
    | some d => exact ⟨d, rfl, by rw [hux] at hx; cases d <;> first | rfl | (simp at hx)⟩
  obtain ⟨dx, hux, hxd⟩ := hxu
  simp only [Builtin.append_, List.getElem?_toArray, List.getElem?_cons_zero, List.getElem?_cons_succ, Sem.run_bind, run_underlying hu, run_underlying hux, Result.andThen_ok, sizeB_run hi, Sem.run_pure]
  cases dx <;> simp only [] at hxd <;> try cases hxd
  all_goals
    simp only [Sem.run_bind, Result.andThen_ok, Bool.false_eq_true, if_false, hlen]
    rw [Sem.run_ite, if_pos (by omega)]
    simp only [Sem.run_bind, Bool.not_false, if_true, hnew, Result.andThen_ok, Sem.run_pure]

theorem upd_erase_new {cs : List Value} {id : Nat} (hs : SimF σ B h w) (hid : σ H.next = none) (hne : id ≠ H.next) (hb : H.get id ≠ none) (i : Nat) (b : Blk)
    (hu : upd h H ⟨(H.t.set id none).set H.next (some ⟨cs, true⟩), Nat.succ H.next, H.floor, H.lps⟩ i = some b) : (i = H.next ∧ b = ⟨cs, true⟩) ∨ (i ≠ H.next ∧ i ≠ id ∧ h i = some b) := by
  have hn : h H.next = none := by
    cases hh : h H.next with
    | none => rfl
    | some b => obtain ⟨c, o, s, _, _, _, h1, _⟩ := hs.blk _ _ hh; rw [hid] at h1; cases h1
  unfold upd at hu
  by_cases hi : i = H.next
  · subst hi
    split at hu
    · rw [hn] at hu; cases hu
    · rcases Tr.get_set _ _ _ _ _ hu with ⟨_, h2⟩ | ⟨h1, _⟩
      · cases h2; exact .inl ⟨rfl, rfl⟩
      · exact absurd rfl h1
  · right
    have e1 : (Heap.get ⟨(H.t.set id none).set H.next (some ⟨cs, true⟩), Nat.succ H.next, H.floor, H.lps⟩ i) = (H.t.set id none).get i := Tr.get_set_other _ _ _ _ hi
    rw [e1] at hu
    by_cases hi2 : i = id
    · subst hi2
      rw [Tr.get_set_none] at hu
      split at hu
      · rename_i he; exact absurd he.symm hb
      · cases hu
    · rw [Tr.get_set_other _ _ _ _ hi2] at hu
      have e2 : H.t.get i = H.get i := rfl
      rw [e2, if_pos rfl] at hu
      exact ⟨hi, hi2, hu⟩

/-- an abstract block may be thought of as shorter -/
theorem trim_goes {n : Nat} (hs : SimF σ B h w) (id : Nat) (b : Blk) (hb : h id = some b) (L : Nat) : Goes B σ h n w σ (fun j => if j = id then some ⟨b.cells.take L, b.wr⟩ else h j) n w := by
  have cs : ∀ j b', (if j = id then some (⟨b.cells.take L, b.wr⟩ : Blk) else h j) = some b' → ∃ b0, h j = some b0 ∧ b0.wr = b'.wr := by
    intro j b' hj
    split at hj
    · rename_i e; cases hj; subst e; exact ⟨b, hb, rfl⟩
    · exact ⟨b', hj, rfl⟩
  refine ⟨⟨fun j b' hj => ?_, fun j b' hj hw => ?_, fun i j bi bj hne hi hj hw => ?_⟩, Nat.le_refl _, fun _ _ => rfl, fun _ _ h => h, rfl, rfl, rfl, Nat.le_refl _, fun _ _ _ => rfl, fun c ⟨j, b', o, s, hj, hw, hc⟩ _ => ?_⟩
  · have hj : (if j = id then some (⟨b.cells.take L, b.wr⟩ : Blk) else h j) = some b' := hj
    split at hj
    · rename_i e
      cases hj
      subst e
      obtain ⟨c, o, s, arr, ty, fr, e1, e2, e3, e4, e5, e6⟩ := hs.blk j b hb
      refine ⟨c, o, s, arr, ty, fr, e1, e2, e3, ?_, ?_, e6⟩
      · show o + (b.cells.take L).length ≤ s
        rw [List.length_take]; omega
      · have := e5.take L
        rw [List.take_take] at this
        show VRs σ (b.cells.take L) ((arr.toList.drop o).take (b.cells.take L).length)
        rw [List.length_take]
        exact this
    · exact hs.blk j b' hj
  · obtain ⟨b0, h1, h2⟩ := cs j b' hj
    exact hs.own j b0 h1 (h2.trans hw)
  · obtain ⟨b0, h1, h2⟩ := cs i bi hi
    obtain ⟨b1, h3, _⟩ := cs j bj hj
    exact hs.excl i j b0 b1 hne h1 h3 (h2.trans hw)
  · obtain ⟨b0, h1, h2⟩ := cs j b' hj
    exact ⟨j, b0, o, s, h1, h2.trans hw, hc⟩

theorem wrap_i64 {n : Int} (h0 : 0 ≤ n) (h : n ≤ 9223372036854775807) : IntKind.i64.wrap n = n := by
  have : wrapA .i64 n = IntKind.i64.wrap n := wrapA_eq .i64 n
  rw [← this]
  unfold wrapA signedW
  cases n with
  | ofNat m =>
    have h : (m : Int) ≤ 9223372036854775807 := h
    have : Nat.blt m 9223372036854775808 = true := by rw [blt_eq]; exact decide_eq_true (by omega)
    simp only [this]
  | negSucc m => exact absurd h0 (by omega)

/-- zeros behind nil -/
theorem zeros_ok {sT xT ty e : TypeId} (hu : P.underlying sT = some (.slice e)) (hx : isIntT P xT = true) {i : TypeInfo} (hi : P.info? e = some i) {z : Value} (hz : zeroB P e = some z)
    (hzl : z.cells.size = i.size) (hp : 0 < i.size) (n : Nat) (hn : 0 < n) (hroom : roomB n i.bytes = true) :
    ∃ (rest : List Value) (nc : Nat), n ≤ nc ∧ rest.length = (nc - n) * i.size ∧ (Builtin.append_ #[sT, xT] ty #[.slice none 0 0, .int .i64 n]).run P w =
      .ok (.slice (some ⟨w.heap.size, 0, none⟩) n nc) { w with heap := w.heap.push (.cells ((Builtin.zeroCells z.cells n).toList ++ rest).toArray e (0, 0)), drawn := w.drawn + 1 } := by
  obtain ⟨z1, _⟩ := zeroB_run (P := P) hz { w with drawn := w.drawn + 1 }
  simp only [roomB, Bool.and_eq_true, ble_eq, decide_eq_true_eq] at hroom
  obtain ⟨r1, r2⟩ := hroom
  let nc := n + (w.tape w.drawn (.appendCap n 0 e)) % (2 ^ 63 - n)
  refine ⟨(Builtin.zeroCells z.cells (nc - n)).toList, nc, by omega, by rw [zeroCells_length, hzl], ?_⟩
  have hxu : ∃ k, P.underlying xT = some (.int k) := by
    unfold isIntT at hx
    cases hux : P.underlying xT with
    | none => rw [hux] at hx; cases hx
    | some d => rw [hux] at hx; cases d <;> first | exact ⟨_, rfl⟩ | (cases hx)
  obtain ⟨k, hux⟩ := hxu
  have hi1 : (typeInfo e).run P w = .ok i w := by simp [typeInfo, hi]
  have hs1 : (sizeOf e).run P w = .ok i.size w := by simp [sizeOf, typeInfo, hi]
  have hnx : ¬ Builtin.nextslicecap n 0 * i.bytes > 2 ^ 48 := by
    have := nextslicecap_le (need := n) (old := 0) hn
    have h2 := Nat.mul_le_mul_right i.bytes this
    have e2 : 2 ^ 48 = 281474976710656 := by decide
    omega
  have hmk : ¬ ((n : Int) * (i.bytes : Int) > 2 ^ 48) := by
    have h2 : n * i.bytes ≤ 281474976710656 := by
      have := Nat.mul_le_mul_right i.bytes (show n ≤ 2 * n by omega)
      omega
    have e2 : (2 : Int) ^ 48 = 281474976710656 := by decide
    rw [e2]
    have : ((n * i.bytes : Nat) : Int) ≤ 281474976710656 := Int.ofNat_le.2 h2
    rw [Int.natCast_mul] at this
    omega
  have hmax : ¬ (((n : Nat) : Int) > IntKind.i64.max ∧ (True ∨ i.bytes = 0)) := by
    have e : IntKind.i64.max = 9223372036854775807 := by decide
    rw [e]; omega
  have hw : IntKind.i64.wrap (n : Int) = n := wrap_i64 (by omega) (by omega)
  have hq : (Question.appendCap n 0 e).forced = false := rfl
  have hcut : (Question.appendCap n 0 e).cut (w.tape w.drawn (.appendCap n 0 e)) = nc := rfl
  have hns : ¬ n * i.size = 0 := by
    have := Nat.mul_pos hn hp
    omega
  simp only [Builtin.append_, List.getElem?_toArray, List.getElem?_cons_zero, List.getElem?_cons_succ, Sem.run_bind, run_underlying hu, run_underlying hux, Result.andThen_ok, hs1, Sem.run_pure, asInt, hw]
  simp only [if_true, asIntOf, Sem.run_bind, Sem.run_pure, Result.andThen_ok, hw]
  rw [Sem.run_ite, if_neg (by omega)]
  simp only [Sem.run_bind, hi1, Result.andThen_ok]
  rw [Sem.run_ite, if_neg hmk]
  simp only [Sem.run_bind, Sem.run_pure, Result.andThen_ok, Int.toNat_natCast, Nat.zero_add]
  rw [Sem.run_ite, if_neg (by omega)]
  simp only [Sem.run_bind, hi1, Result.andThen_ok, Sem.run_ite]
  rw [if_neg hmax, if_neg hnx]
  simp only [run_choose, hq, hcut, Bool.false_eq_true, if_false, Result.andThen_ok, Sem.run_pure]
  simp only [typeInfo, hi, Sem.run_bind, run_program, Result.andThen_ok, Sem.run_pure, run_askRoom, z1, Bool.not_true, if_false, Bool.false_eq_true, newRow, run_newObj, Builtin.firstCells, Sem.run_ite]
  rw [if_neg hns]
  simp only [Sem.run_bind, Sem.run_pure, Result.andThen_ok, z1, run_newObj]
  congr 2
  apply congrArg (fun a => w.heap.push (Obj.cells a e (0, 0)))
  apply Array.ext'
  simp
theorem zeros0_ok {sT xT ty e : TypeId} (hu : P.underlying sT = some (.slice e)) (hx : isIntT P xT = true) {i : TypeInfo} (hi : P.info? e = some i) :
    (Builtin.append_ #[sT, xT] ty #[.slice none 0 0, .int .i64 ((0 : Nat) : Int)]).run P w = .ok (.slice none 0 0) w := by
  have hxu : ∃ k, P.underlying xT = some (.int k) := by
    unfold isIntT at hx
    cases hux : P.underlying xT with
    | none => rw [hux] at hx; cases hx
    | some d => rw [hux] at hx; cases d <;> first | exact ⟨_, rfl⟩ | (cases hx)
  obtain ⟨k, hux⟩ := hxu
  have hi1 : (typeInfo e).run P w = .ok i w := by simp [typeInfo, hi]
  have hs1 : (sizeOf e).run P w = .ok i.size w := by simp [sizeOf, typeInfo, hi]
  have hw : IntKind.i64.wrap ((0 : Nat) : Int) = ((0 : Nat) : Int) := wrap_i64 (by omega) (by omega)
  simp only [Builtin.append_, List.getElem?_toArray, List.getElem?_cons_zero, List.getElem?_cons_succ, Sem.run_bind, run_underlying hu, run_underlying hux, Result.andThen_ok, hs1, Sem.run_pure, asInt]
  simp only [if_true, asIntOf, Sem.run_bind, Sem.run_pure, Result.andThen_ok, hw]
  rw [Sem.run_ite, if_neg (by omega)]
  simp only [Sem.run_bind, hi1, Result.andThen_ok]
  rw [Sem.run_ite, if_neg (by
    have e2 : (0 : Int) < 2 ^ 48 := by decide
    simp only [Int.natCast_zero, Int.zero_mul]
    omega)]
  simp only [Sem.run_bind, Sem.run_pure, Result.andThen_ok, Int.toNat_natCast, Nat.zero_add]
  rw [Sem.run_ite, if_pos (Nat.le_refl _)]
  simp only [Sem.run_bind, Sem.run_pure, Result.andThen_ok, Bool.not_true, Bool.false_eq_true, if_false, Nat.zero_mul, if_true, Sem.run_ite]

theorem appendZ_ok {sT xT ty : TypeId} {s s' x x' v : Value} (hs : SimF σ B h w) (hB : B ≤ w.heap.size) (hid : ∀ i, H.next ≤ i → i < H'.next → σ i = none) (hxT : isIntT P xT = true)
    (hvs : VR σ s s') (hvx : VR σ x x') (hr : (appendZ P sT).f [s, x] H = some (v, H')) : Does P B (Builtin.append_ #[sT, xT] ty #[s', x']) w σ h H v H' := by
  unfold appendZ at hr
  split at hr
  case h_2 => cases hr
  case h_1 e hu =>
  split at hr
  case h_2 => cases hr
  case h_1 i hi =>
  split at hr
  case h_2 => cases hr
  case h_1 z hz =>
  split at hr
  case h_2 => cases hr
  case h_1 hq =>
  simp only [Bool.and_eq_true, blt_eq, lenN_eq, decide_eq_true_eq] at hq
  obtain ⟨hp, hq2⟩ := hq
  have hq2 := Nat.eq_of_beq_eq_true hq2
  have hzl : z.cells.size = i.size := by rw [← hq2, ← cellsL_self, Array.length_toList]
  simp only [two] at hr
  unfold appendZeros at hr
  split at hr
  case h_2 => cases hr
  case h_1 a len c =>
  split at hr
  case h_1 => cases hr
  case h_2 =>
  split at hr
  case h_2 => cases hr
  case h_1 k n =>
  split at hr
  case h_2 => cases hr
  case h_1 =>
  split at hr
  case h_2 => cases hr
  case h_1 hb =>
  rw [Bool.and_eq_true, Bool.and_eq_true] at hb
  obtain ⟨hb0, hb1, hb2⟩ := hb
  obtain rfl := Nat.eq_of_beq_eq_true hb1
  obtain rfl := Nat.eq_of_beq_eq_true hb2
  have h0 : 0 ≤ n := by rw [leB_eq] at hb0; exact of_decide_eq_true hb0
  obtain ⟨m, rfl⟩ : ∃ m : Nat, n = m := ⟨n.toNat, by omega⟩
  obtain rfl : s' = .slice none 0 0 := by cases hvs; rfl
  obtain rfl : x' = .int .i64 m := by cases hvx; rfl
  rw [Int.toNat_natCast] at hr
  split at hr
  case h_1 hm =>
    cases hr
    have hm := Nat.eq_of_beq_eq_true hm
    subst hm
    exact Does.pure hs ⟨_, zeros0_ok hu hxT hi, .slNil .nil⟩
  case h_2 hm =>
    have hm : 0 < m := by
      rcases Nat.eq_zero_or_pos m with h | h
      · subst h; cases hm
      · exact h
    split at hr
    case h_2 => cases hr
    case h_1 hroom =>
    obtain ⟨rest, nc, g1, g2, g3⟩ := zeros_ok (P := P) (w := w) (ty := ty) hu hxT hi hz hzl hp m hm hroom
    obtain ⟨_, hzc⟩ := zeroB_run (P := P) hz w
    have hzr : VRs σ (repl m (cellsL z)) (Builtin.zeroCells z.cells m).toList := by
      have e1 : (Builtin.zeroCells z.cells m).toList = repl m z.cells.toList := by unfold Builtin.zeroCells; exact repl_eq m z.cells
      rw [e1]
      exact (constOk_VR hzc).cells.repl m
    obtain ⟨τ, id, rfl, hτ, hg⟩ := newSlice_ok (rest := rest) hs hB hid hzr e (0, 0) (by simp) (w.drawn + 1) hr
    refine ⟨_, _, τ, g3, ?_, hg⟩
    refine slice_new_open hτ hp g1 ?_
    rw [g2, zeroCells_length, hzl, ← Nat.add_mul]
    exact Nat.mul_le_mul_right _ (by omega)

theorem append_ok {sT xT ty : TypeId} {s s' x x' v : Value} (hs : SimF σ B h w) (hB : B ≤ w.heap.size) (hid : ∀ i, H.next ≤ i → i < H'.next → σ i = none) (has : AgV h H s) (hax : AgV h H x)
    (hvs : VR σ s s') (hvx : VR σ x x') (hr : (appendC P [sT, xT]).f [s, x] H = some (v, H')) : Does P B (Builtin.append_ #[sT, xT] ty #[s', x']) w σ h H v H' := by
  unfold appendC at hr
  simp only at hr
  split at hr
  case h_2 => cases hr
  case h_1 e hu =>
  split at hr
  case h_2 => cases hr
  case h_1 i hi =>
  split at hr
  case h_2 => cases hr
  case h_1 z hz =>
  split at hr
  case h_2 => cases hr
  case h_1 hq =>
  simp only [Bool.and_eq_true, blt_eq, lenN_eq, decide_eq_true_eq] at hq
  obtain ⟨⟨hp, hq2⟩, hxT⟩ := hq
  have hq2 := Nat.eq_of_beq_eq_true hq2
  have hzl : z.cells.size = i.size := by rw [← hq2, ← cellsL_self, Array.length_toList]
  have hsz : sizeB P e = some i.size := by simp [sizeB, hi]
  simp only [two, appendWith] at hr
  split at hr
  case h_2 => cases hr
  case h_1 n hn =>
  split at hr
  case h_2 => cases hr
  case h_1 new hne =>
  have hs1 : SimF σ B h { w with drawn := w.drawn + 1 } := ⟨hs.blk, hs.own, hs.excl⟩
  obtain ⟨new', n1, n2, n3⟩ := elems_ok (P := P) hs hax hvx hn (Nat.le_refl _) hne
  obtain ⟨new2, m1, m2, m3⟩ := elems_ok (P := P) hs1 hax hvx hn (Nat.le_refl _) hne
  have hl1 := len_ok (P := P) (w := w) hvx hn
  have n4 : new'.length = n * i.size := by rw [← n2.length]; exact n3
  have m4 : new2.length = n * i.size := by rw [← m2.length]; exact m3
  unfold appendTo at hr
  cases hvs <;> simp only at hr <;> try cases hr
  case slNil _ =>
    split at hr
    · rename_i h0
      cases hr
      have h0 := Nat.eq_of_beq_eq_true h0
      subst h0
      exact Does.pure hs ⟨_, room_nil hu hxT hsz x' new' hl1 n1, .slNil .nil⟩
    · rename_i h0
      have h0 : n ≠ 0 := fun e => by subst e; simp at h0
      split at hr
      · rename_i hroom
        obtain ⟨rest, nc, g1, g2, g3⟩ := grow_ok (P := P) (w := w) (ty := ty) hu hxT hi hz hzl none 0 0 n x' [] new2 hl1 (by omega) (by simpa using hroom) rfl m1
        obtain ⟨τ, id, rfl, hτ, hg⟩ := newSlice_ok (rest := rest) hs hB hid m2 e (0, 0) (by simp) (w.drawn + 1) hr
        refine ⟨_, _, τ, g3, ?_, by simpa using hg⟩
        rw [Nat.zero_add] at *
        refine slice_new_open hτ hp g1 ?_
        rw [g2, m4, ← Nat.add_mul]
        exact Nat.mul_le_mul_right _ (by omega)
      · cases hr
  case slFull id off len size' c o sz a hσ hp' hadr _ =>
    split at hr
    · rename_i h0
      cases hr
      have h0 := Nat.eq_of_beq_eq_true h0
      subst h0
      refine Does.pure hs ⟨_, ?_, .slFull id off len size' c o sz a hσ hp' hadr .nil⟩
      have hn0 : new' = [] := List.length_eq_zero_iff.1 (by rw [n4]; simp)
      subst hn0
      exact room_ok (w := w) hu hxT hsz a len len 0 x' [] hl1 (by omega) n1 rfl
    · rename_i h0
      have h0 : n ≠ 0 := fun e => by subst e; simp at h0
      split at hr
      · rename_i hroom
        split at hr
        case isFalse hc =>
          split at hr
          case isFalse => cases hr
          case isTrue hc2 => have := Nat.eq_of_beq_eq_true hc2; omega
        case isTrue =>
        unfold appendClosed at hr
        split at hr
        case h_2 => cases hr
        case h_1 old hold =>
        have hold' : ∃ old', (Builtin.firstCells i.size len (.slice (some a) len len)).run P { w with drawn := w.drawn + 1 } = .ok old'.toArray { w with drawn := w.drawn + 1 } ∧ VRs σ old old' ∧ old.length = len * i.size := by
          split at hold
          · rename_i hl0
            cases hold
            have hl0 := Nat.eq_of_beq_eq_true hl0
            subst hl0
            exact ⟨[], by simp [Builtin.firstCells, loadCells, loadCellsFrom], .nil, by simp⟩
          · rename_i hl0
            have hl0 : len ≠ 0 := fun e => by subst e; simp at hl0
            have hadr : a = ⟨c, o + off, none⟩ := (hadr.resolve_left hl0).1
            subst hadr
            obtain ⟨l', q1, q2, q3⟩ := read_ok (P := P) hs1 (has id rfl) hold hσ
            exact ⟨l', q1, q2, q3⟩
        obtain ⟨old', o1, o2, o3⟩ := hold'
        obtain ⟨rest, nc, g1, g2, g3⟩ := grow_ok (P := P) (w := w) (ty := ty) hu hxT hi hz hzl (some a) len len n x' old' new2 hl1 (by omega) hroom o1 m1
        rw [appN_eq] at hr
        obtain ⟨τ, id', rfl, hτ, hg⟩ := newSlice_ok (rest := rest) hs hB hid (o2.append m2) e (0, 0) (by simp) (w.drawn + 1) hr
        refine ⟨_, _, τ, g3, ?_, hg⟩
        refine slice_new_open hτ hp g1 ?_
        have := o2.length
        rw [g2, List.length_append, m4, ← this, o3, ← Nat.add_mul, ← Nat.add_mul]
        exact Nat.mul_le_mul_right _ (by omega)
      · cases hr
  case slOpen id off len size' cap c o sz a hσ hp' hle hadr _ =>
    split at hr
    · rename_i h0
      cases hr
      have h0 := Nat.eq_of_beq_eq_true h0
      subst h0
      refine Does.pure hs ⟨_, ?_, .slOpen id off len size' cap c o sz a hσ hp' hle hadr .nil⟩
      have hn0 : new' = [] := List.length_eq_zero_iff.1 (by rw [n4]; simp)
      subst hn0
      exact room_ok (w := w) hu hxT hsz a len cap 0 x' [] hl1 (by omega) n1 rfl
    · rename_i h0
      have h0 : n ≠ 0 := fun e => by subst e; simp at h0
      split at hr
      case isFalse => cases hr
      case isTrue hroom =>
      split at hr
      case isTrue hc => have := Nat.eq_of_beq_eq_true hc; omega
      case isFalse =>
      split at hr
      case isFalse => cases hr
      case isTrue hc2 =>
      have hc2 := Nat.eq_of_beq_eq_true hc2
      obtain rfl : size' = i.size := by omega
      unfold appendOpen at hr
      cases hg : H.get id with
      | none => rw [hg] at hr; cases hr
      | some b =>
        rw [hg] at hr
        simp only at hr
        split at hr
        case h_2 => cases hr
        case h_1 hq =>
        simp only [Bool.and_eq_true, Heap.mayWrite, lenN_eq] at hq
        obtain ⟨⟨hw, _⟩, hend, hone1⟩ := hq
        rw [ble_eq] at hend
        have hend := of_decide_eq_true hend
        have hb := has id rfl b hg
        have tg := trim_goes (n := H.next) hs id b hb (off + len * i.size)
        simp only [newSlice, Heap.new, Heap.set, appN_eq, dropN_eq, takeN_eq] at hr
        cases hr
        have hd1 : (b.cells.drop off).take (len * i.size) = (b.cells.take (off + len * i.size)).drop off := by
          rw [List.drop_take]; congr 1; omega
        have hl1' : (b.cells.take (off + len * i.size)).length = off + len * i.size := by rw [List.length_take]; omega
        have hc1 : ∀ j b', j ≠ id → h j = some b' → (if j = id then some (⟨b.cells.take (off + len * i.size), b.wr⟩ : Blk) else h j) = some b' := fun j b' hne hj => by rw [if_neg hne]; exact hj
        generalize hT1 : b.cells.take (off + len * i.size) = bc at *
        obtain ⟨c', o', s', arr, aty, fr, e1, e2, e3, e4, e5, e6⟩ := tg.sim.blk id ⟨bc, b.wr⟩ (if_pos rfl)
        rw [hσ] at e1; cases e1
        simp only at e4 e5
        have hk : σ H.next = none := hid H.next (Nat.le_refl _) (Nat.lt_succ_self _)
        have hnk : id ≠ H.next := fun e => by subst e; rw [hσ] at hk; cases hk
        have hupd := fun j b' => upd_erase_new (cs := bc.drop off ++ new) (h := h) (H := H) (id := id) hs hk hnk (by rw [hg]; simp) j b'
        by_cases hin : len + n ≤ cap
        · -- in place
          have hadr : a = ⟨c, o + off, none⟩ ∧ o + off + cap * i.size ≤ sz := by
            rcases hadr with hh | ⟨_, h2⟩
            · exact hh
            · omega
          obtain ⟨rfl, hcap⟩ := hadr
          have hfits : o + bc.length + new'.length ≤ arr.size := by
            rw [n4, hl1', e3]
            have := Nat.mul_le_mul_right i.size hin
            rw [Nat.add_mul] at this
            omega
          have hone : ∀ u ∈ new', u.oneCell' = true := one_ok n2 hone1
          have hst := stores_at (P := P) c (o + off + len * i.size) aty fr new' 0 arr w e2 (by omega) hone (fun j hj => (e6 hw).2 j (by omega))
          let nb : Blk := ⟨bc ++ new, b.wr⟩
          let arr' := (arr.toList.take (o + off + len * i.size + 0) ++ new' ++ arr.toList.drop (o + off + len * i.size + 0 + new'.length)).toArray
          have ga : Goes B σ (fun j => if j = id then some (⟨bc, b.wr⟩ : Blk) else h j) H.next w σ (fun j => if j = id then some nb else h j) H.next (w.setRow c arr') := by
            refine setRow_goes tg.sim id ⟨bc, b.wr⟩ nb (if_pos rfl) hw c o sz arr arr' aty fr hσ e2 ?_ ?_ ?_ _ ?_
            · simp [arr']; omega
            · simp [nb]; have := n2.length; omega
            · have hlen : nb.cells.length = bc.length + new'.length := by simp [nb]; exact n2.length
              have hm : (arr'.toList.drop o).take nb.cells.length = (arr.toList.drop o).take bc.length ++ new' := by
                rw [hlen]
                apply List.ext_getElem?
                intro k
                have hL : o + off + len * i.size + 0 = o + bc.length := by omega
                simp only [arr', hL, List.getElem?_take, List.getElem?_drop, List.getElem?_append, List.length_append, List.length_take, List.length_drop, Array.length_toList]
                have a1 : min (o + bc.length) arr.size = o + bc.length := by omega
                have a2 : min bc.length (arr.size - o) = bc.length := by omega
                simp only [a1, a2]
                by_cases k1 : k < bc.length
                · simp [k1, show k < bc.length + new'.length by omega, show o + k < o + bc.length + new'.length by omega, show o + k < o + bc.length by omega]
                · by_cases k2 : k < bc.length + new'.length
                  · simp only [k1, k2, if_true, if_false, show o + k < o + bc.length + new'.length by omega, show ¬ o + k < o + bc.length by omega]
                    congr 1; omega
                  · simp only [k1, k2, if_false]
                    symm; apply List.getElem?_eq_none; omega
              rw [hm]
              exact e5.append n2
            · intro j b' hj
              by_cases hji : j = id
              · subst hji; simp at hj; exact .inl ⟨rfl, hj.symm⟩
              · simp [hji] at hj; exact .inr ⟨hji, hc1 j b' hji hj⟩
          have gb : Goes B σ (fun j => if j = id then some nb else h j) H.next (w.setRow c arr') (fun j => if j = H.next then some (c, o + off, sz) else σ j) (upd h H ⟨(H.t.set id none).set H.next (some ⟨bc.drop off ++ new, true⟩), Nat.succ H.next, H.floor, H.lps⟩) (H.next + 1) (w.setRow c arr') := by
            refine rename_goes ga.sim id H.next off nb (by simp) hw c o sz hσ hk (by simp [nb]; omega) _ ?_
            intro j b' hj
            rcases hupd j b' hj with ⟨q1, q2⟩ | ⟨q1, q2, q3⟩
            · left
              refine ⟨q1, q2.trans ?_⟩
              simp only [nb]
              rw [List.drop_append_of_le_length (by omega)]
            · exact .inr ⟨q1, q2, by simp [q2]; exact q3⟩
          refine ⟨.slice (some ⟨c, o + off, none⟩) (len + n) cap, _, _, ?_, ?_, tg.trans (ga.trans gb)⟩
          · refine room_ok (w := w) hu hxT hsz ⟨c, o + off, none⟩ len cap n x' new' hl1 hin n1 ?_
            rw [addr_add]
            exact hst
          · exact .slOpen H.next 0 (len + n) i.size cap c (o + off) sz _ (if_pos rfl) hp hin (.inl ⟨by simp, by omega⟩) .nil
        · -- a new array
          have hold' : ∃ old', (Builtin.firstCells i.size len (.slice (some a) len cap)).run P { w with drawn := w.drawn + 1 } = .ok old'.toArray { w with drawn := w.drawn + 1 } ∧ VRs σ (bc.drop off) old' := by
            rcases hadr with ⟨rfl, _⟩ | ⟨rfl, rfl⟩
            · have : readCells H id off (len * i.size) = some (bc.drop off) := by
                rw [readCells_eq]
                rw [hg]
                simp only [cellsAt, takeN_eq, dropN_eq, lenN_eq]
                rw [hd1]
                have : Nat.beq (bc.drop off).length (len * i.size) = true := by
                  have : (bc.drop off).length = len * i.size := by simp; omega
                  rw [this]; exact Nat.beq_refl _
                rw [this]
              obtain ⟨l', q1, q2, q3⟩ := read_ok (P := P) hs1 (has id rfl) this hσ
              exact ⟨l', q1, q2⟩
            · refine ⟨[], by simp [Builtin.firstCells, loadCells, loadCellsFrom], ?_⟩
              have : bc.drop off = [] := List.drop_eq_nil_of_le (by omega)
              rw [this]; exact .nil
          obtain ⟨old', o1, o2⟩ := hold'
          have ol : (bc.drop off).length = len * i.size := by simp; omega
          obtain ⟨rest, nc, g1, g2, g3⟩ := grow_ok (P := P) (w := w) (ty := ty) hu hxT hi hz hzl (some a) len cap n x' old' new2 hl1 (by omega) hroom o1 m1
          have gg := new_goes hs hB H.next hk (bc.drop off ++ new) (old' ++ new2) rest e (0, 0) (o2.append m2) (by simp) (w.drawn + 1) (upd h H ⟨(H.t.set id none).set H.next (some ⟨bc.drop off ++ new, true⟩), Nat.succ H.next, H.floor, H.lps⟩)
            (fun j b' hj => by
              rcases hupd j b' hj with q | ⟨q1, _, q3⟩
              · exact .inl q
              · exact .inr ⟨q1, q3⟩)
          refine ⟨_, _, _, g3, ?_, gg⟩
          refine slice_new_open (if_pos rfl) hp g1 ?_
          have := o2.length
          rw [g2, List.length_append, m4, ← this, ol, ← Nat.add_mul, ← Nat.add_mul]
          exact Nat.mul_le_mul_right _ (by omega)
end
end Go.Ab
