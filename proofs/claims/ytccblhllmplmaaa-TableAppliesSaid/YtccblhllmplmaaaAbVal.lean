import Derived.Test.YtccblhllmplmaaaAbHeap
import Derived.ChangeKeysEq
namespace Go.Ab
open Go

/-! numbers -/
theorem blt_eq (m n : Nat) : Nat.blt m n = decide (m < n) := by unfold Nat.blt; rw [ble_eq]; rfl
theorem signedW_eq (half whole : Nat) (hw : whole = 2 * half) (hp : 0 < half) (n : Int) :
    signedW half whole n = if n % (whole : Int) < half then n % (whole : Int) else n % (whole : Int) - whole := by
  cases n with
  | ofNat m =>
    simp only [signedW, Int.ofNat_eq_natCast]
    have e : ((m : Int) % (whole : Int)) = ((m % whole : Nat) : Int) := by omega
    rw [e]
    cases h : Nat.blt m half with
    | true =>
      have : m < half := by rw [blt_eq] at h; exact of_decide_eq_true h
      have hm : m % whole = m := Nat.mod_eq_of_lt (by omega)
      simp only [hm]; rw [if_pos (by omega)]
    | false =>
      cases h2 : Nat.blt (m % whole) half with
      | true =>
        have : m % whole < half := by rw [blt_eq] at h2; exact of_decide_eq_true h2
        simp only [cond]; rw [if_pos (by omega)]
      | false =>
        have h3 : ¬ m % whole < half := by rw [blt_eq] at h2; exact of_decide_eq_false h2
        have h4 : m % whole < whole := Nat.mod_lt _ (by omega)
        simp only [cond]; rw [if_neg (by omega)]
        omega
  | negSucc m =>
    simp only [signedW]
    have e : (Int.negSucc m % (whole : Int)) = ((whole - 1 - m % whole : Nat) : Int) := by
      have h4 : m % whole < whole := Nat.mod_lt _ (by omega)
      rw [Int.negSucc_emod m (by omega)]
      have : ((m : Int) % (whole : Int)) = ((m % whole : Nat) : Int) := by omega
      omega
    rw [e]
    have h4 : m % whole < whole := Nat.mod_lt _ (by omega)
    cases h : Nat.blt m half with
    | true =>
      have : m < half := by rw [blt_eq] at h; exact of_decide_eq_true h
      have hm : m % whole = m := Nat.mod_eq_of_lt (by omega)
      simp only [hm]; rw [if_neg (by omega)]; omega
    | false =>
      cases h2 : Nat.blt (m % whole) half with
      | true =>
        have : m % whole < half := by rw [blt_eq] at h2; exact of_decide_eq_true h2
        simp only [cond]; rw [if_neg (by omega)]; omega
      | false =>
        have h3 : ¬ m % whole < half := by rw [blt_eq] at h2; exact of_decide_eq_false h2
        simp only [cond, Int.ofNat_eq_natCast]; rw [if_pos (by omega)]
theorem unsignedW_eq (whole : Nat) (hp : 0 < whole) (n : Int) : unsignedW whole n = n % (whole : Int) := by
  cases n with
  | ofNat m => simp only [unsignedW, Int.ofNat_eq_natCast]; omega
  | negSucc m =>
    simp only [unsignedW, Int.ofNat_eq_natCast]
    have h4 : m % whole < whole := Nat.mod_lt _ hp
    rw [Int.negSucc_emod m (by omega)]
    have : ((m : Int) % (whole : Int)) = ((m % whole : Nat) : Int) := by omega
    omega
theorem wrapA_eq (k : IntKind) (n : Int) : wrapA k n = k.wrap n := by
  cases k <;> simp only [wrapA, IntKind.wrap, IntKind.bits, IntKind.signed]
  · rw [signedW_eq 128 256 rfl (by omega)]; simp; omega
  · rw [signedW_eq 32768 65536 rfl (by omega)]; simp; omega
  · rw [signedW_eq 2147483648 4294967296 rfl (by omega)]; simp; omega
  · rw [signedW_eq 9223372036854775808 18446744073709551616 rfl (by omega)]; simp; omega
  all_goals rw [unsignedW_eq _ (by omega)]; simp
theorem bitsA_eq (k : IntKind) (n : Int) : bitsA k n = (BitVec.ofInt k.bits n).toNat := by
  rw [BitVec.toNat_ofInt]
  cases k <;> simp only [bitsA, IntKind.bits] <;> rw [unsignedW_eq _ (by omega)] <;> rfl
theorem kindB_eq {k k' : IntKind} (h : kindB k k' = true) : k = k' := by cases k <;> cases k' <;> first | rfl | cases h

section
variable {P : Program} {σ : Loc}
theorem VR.int_inv {k : IntKind} {n : Int} {v : Value} (h : VR σ (.int k n) v) : v = .int k n := by cases h; rfl
theorem VR.bool_inv {b : Bool} {v : Value} (h : VR σ (.bool b) v) : v = .bool b := by cases h; rfl
theorem VR.string_inv {s : ByteArray} {v : Value} (h : VR σ (.string s) v) : v = .string s := by cases h; rfl
theorem VR.agg_inv {x : Array Value} {v : Value} (h : VR σ (.agg x) v) : ∃ x', v = .agg x' ∧ VRs σ x.toList x'.toList := by
  cases h; rename_i x' h1 _; exact ⟨_, rfl, h1⟩
theorem VR.tuple_inv {x : Array Value} {v : Value} (h : VR σ (.tuple x) v) : ∃ x', v = .tuple x' ∧ VRs σ x.toList x'.toList := by
  cases h; rename_i x' h1 _; exact ⟨_, rfl, h1⟩
theorem VR.ptr_inv {id off : Nat} {sp : Option Nat} {v : Value} (h : VR σ (.pointer (some ⟨id, off, sp⟩)) v) : sp = none ∧ ∃ c o s, v = .pointer (some ⟨c, o + off, none⟩) ∧ σ id = some (c, o, s) := by
  cases h; rename_i c o s h0 _; exact ⟨rfl, _, _, _, rfl, h0⟩
theorem VR.bool {b : Bool} : VR σ (.bool b) (.bool b) := VRs.bool b .nil
theorem VR.int {k : IntKind} {n : Int} : VR σ (.int k n) (.int k n) := VRs.int k n .nil
theorem VR.string {s : ByteArray} : VR σ (.string s) (.string s) := VRs.string s .nil
theorem VRs.unsingle {v : Value} {l : List Value} (h : VRs σ [v] l) : ∃ v', l = [v'] ∧ VR σ v v' := by
  obtain ⟨v', r', rfl, hv, hr⟩ := h.uncons
  rw [hr.nil_inv]; exact ⟨v', rfl, hv⟩
theorem VR.arr {l l' : List Value} (h : VRs σ l l') : VR σ (.agg l.toArray) (.agg l'.toArray) := .agg _ _ (by simpa using h) .nil

/-- integers -/
theorem intF_ok (op : BinOp) (k : IntKind) (a b : Int) (t : TypeId) (ox oy : Operand) {v : Value} (hi : isShift op = none) (h : intF op k a b = some v) (w : World) :
    (do eqGuard op t ox oy (.int k a) (.int k b); binOp op t (.int k a) (.int k b)).run P w = .ok v w ∧ VR σ v v := by
  have hg : (eqGuard op t ox oy (.int k a) (.int k b)).run P w = .ok () w := by cases op <;> rfl
  rw [Sem.run_bind, hg, Result.andThen_ok]
  cases op <;> simp only [intF] at h <;> try cases h
  case add => exact ⟨by simp [binOp, Op.intArith, wrapA_eq], .int⟩
  case sub => exact ⟨by simp [binOp, Op.intArith, wrapA_eq], .int⟩
  case mul => exact ⟨by simp [binOp, Op.intArith, wrapA_eq], .int⟩
  case quo =>
    rw [eqB_eq] at h
    by_cases hb : b = 0
    · simp [hb] at h
    · simp [hb] at h; subst h; exact ⟨by simp [binOp, Op.intDiv, hb, wrapA_eq], .int⟩
  case rem =>
    rw [eqB_eq] at h
    by_cases hb : b = 0
    · simp [hb] at h
    · simp [hb] at h; subst h; exact ⟨by simp [binOp, Op.intDiv, hb], .int⟩
  case and => exact ⟨by simp [binOp, Op.intBits, wrapA_eq, bitsA_eq]; try rfl, .int⟩
  case or => exact ⟨by simp [binOp, Op.intBits, wrapA_eq, bitsA_eq]; try rfl, .int⟩
  case xor => exact ⟨by simp [binOp, Op.intBits, wrapA_eq, bitsA_eq]; try rfl, .int⟩
  case eql => exact ⟨by simp [binOp, Op.intCmp, eqB_eq]; rfl, .bool⟩
  case neq => exact ⟨by simp [binOp, Op.intCmp, eqB_eq]; rfl, .bool⟩
  case lss => exact ⟨by simp [binOp, Op.intCmp, leB_eq]; cases h : decide (b ≤ a) <;> simp at h ⊢ <;> omega, .bool⟩
  case leq => exact ⟨by simp [binOp, Op.intCmp, leB_eq], .bool⟩
  case gtr => exact ⟨by simp [binOp, Op.intCmp, leB_eq]; cases h : decide (a ≤ b) <;> simp at h ⊢ <;> omega, .bool⟩
  case geq => exact ⟨by simp [binOp, Op.intCmp, leB_eq], .bool⟩

theorem bytes_arr (a b : ByteArray) : (⟨(appN a.data.toList b.data.toList).toArray⟩ : ByteArray) = a ++ b := by
  rw [appN_eq]
  apply ByteArray.ext
  apply Array.ext'
  show _ = (a ++ b).data.toList
  rw [ByteArray.data_append]
  simp
/-- strings -/
theorem strF_ok (op : BinOp) (a b : ByteArray) (t : TypeId) (ox oy : Operand) {v : Value} (hi : isShift op = none) (h : strF op a.data.toList b.data.toList = some v) (w : World) :
    (do eqGuard op t ox oy (.string a) (.string b); binOp op t (.string a) (.string b)).run P w = .ok v w ∧ VR σ v v := by
  have hg : (eqGuard op t ox oy (.string a) (.string b)).run P w = .ok () w := by cases op <;> rfl
  rw [Sem.run_bind, hg, Result.andThen_ok]
  have e1 : a.toList = a.data.toList := ByteArray.toList_eq a
  have e2 : b.toList = b.data.toList := ByteArray.toList_eq b
  cases op <;> simp only [strF] at h <;> try cases h
  case add =>
    split at h
    · rename_i hl
      cases h
      rw [bytes_arr]
      rw [lenN_eq, lenN_eq, ble_eq] at hl
      have hl := of_decide_eq_true hl
      have s1 : a.data.toList.length = a.size := by rw [Array.length_toList]; rfl
      have s2 : b.data.toList.length = b.size := by rw [Array.length_toList]; rfl
      have : ¬ (((a.size + b.size : Nat) : Int) > IntKind.i64.max) := by
        have e : IntKind.i64.max = 9223372036854775807 := by decide
        rw [e]; omega
      refine ⟨?_, .string⟩
      show (Op.stringOp .add a b).run P w = _
      simp only [Op.stringOp]
      rw [if_neg this]; rfl
    · cases h
  case eql => exact ⟨by simp [binOp, Op.stringOp, e1, e2], .bool⟩
  case neq => exact ⟨by simp [binOp, Op.stringOp, e1, e2], .bool⟩
  case lss => exact ⟨by simp [binOp, Op.stringOp, e1, e2], .bool⟩
  case leq => exact ⟨by simp [binOp, Op.stringOp, e1, e2], .bool⟩
  case gtr => exact ⟨by simp [binOp, Op.stringOp, e1, e2], .bool⟩
  case geq => exact ⟨by simp [binOp, Op.stringOp, e1, e2], .bool⟩

theorem isAggB_run {t : TypeId} {b : Bool} (h : isAggB P t = some b) (w : World) : (isAgg t).run P w = .ok b w := by
  unfold isAggB at h
  cases hu : P.underlying t with
  | none => rw [hu] at h; cases h
  | some d =>
    rw [hu] at h
    unfold isAgg
    rw [Sem.run_bind, run_underlying hu w]
    cases d <;> simp at h <;> subst h <;> rfl
theorem sizeB_run {t : TypeId} {n : Nat} (h : sizeB P t = some n) (w : World) : (sizeOf t).run P w = .ok n w := by
  unfold sizeB at h
  cases hi : P.info? t with
  | none => rw [hi] at h; cases h
  | some i => rw [hi] at h; simp at h; simp [sizeOf, typeInfo, hi, h]
theorem zeroB_run {t : TypeId} {z : Value} (h : zeroB P t = some z) (w : World) : (zeroValue t).run P w = .ok z w ∧ constOk z = true := by
  unfold zeroB at h
  cases hi : P.info? t with
  | none => rw [hi] at h; cases h
  | some i =>
    rw [hi] at h
    cases hz : i.zero with
    | none => simp [hz] at h
    | some z' =>
      simp only [hz] at h
      cases hc : constOk z' with
      | false => rw [hc] at h; cases h
      | true => rw [hc] at h; cases h; exact ⟨by simp [zeroValue, typeInfo, hi, hz], hc⟩

theorem partA_ok {t : TypeId} {cs : List Value} {cs' : Array Value} {off : Nat} {v : Value} (hc : VRs σ cs cs'.toList) (h : partA P t cs off = some v) (w : World) :
    ∃ v', (part t cs' off).run P w = .ok v' w ∧ VR σ v v' := by
  unfold partA at h
  cases ha : isAggB P t with
  | none => simp [ha] at h
  | some b =>
    cases hs : sizeB P t with
    | none => cases b <;> simp [ha, hs] at h
    | some n =>
      unfold part
      rw [Sem.run_bind, isAggB_run ha w, Result.andThen_ok]
      cases b with
      | true =>
        simp only [ha, hs] at h
        cases h
        refine ⟨.agg (cs'.extract off (off + n)), ?_, ?_⟩
        · simp [sizeB_run hs w]
        · rw [takeN_eq, dropN_eq]
          refine .agg _ _ ?_ .nil
          have : (cs'.extract off (off + n)).toList = (cs'.toList.drop off).take n := by
            rw [Array.toList_extract, List.extract_eq_take_drop]
            congr 1; omega
          rw [this]
          simpa using (hc.drop off).take n
      | false =>
        simp only [ha, hs, atN_eq] at h
        obtain ⟨v', h1, h2⟩ := hc.get off v h
        refine ⟨v', ?_, h2⟩
        have : cs'[off]? = some v' := by simpa using h1
        simp [this]

theorem eqFields_ok {d D : Nat} {xs ys : List Value} {xs' ys' : Array Value} (hx : VRs σ xs xs'.toList) (hy : VRs σ ys ys'.toList)
    (ih : ∀ t x y b x' y', eqA P d t x y = some b → VR σ x x' → VR σ y y' → ∀ w, (Op.equalIn D t x' y').run P w = .ok b w) :
    ∀ (fs : List Field) (b : Bool), eqFields P (eqA P d) xs ys fs = some b → ∀ w, (Op.eqFields D xs' ys' fs).run P w = .ok b w
  | [], b, h, w => by cases h; rfl
  | f :: fs, b, h, w => by
    unfold eqFields at h
    split at h
    · cases h
    · rename_i hn
      have hn' : f.name ≠ "_" := by simpa using hn
      cases ha : partA P f.type xs f.offset with
      | none => simp [ha] at h
      | some a =>
        cases hb : partA P f.type ys f.offset with
        | none => simp [ha, hb] at h
        | some c =>
          simp only [ha, hb] at h
          obtain ⟨a', pa, va⟩ := partA_ok hx ha w
          obtain ⟨c', pc, vc⟩ := partA_ok hy hb w
          cases hq : eqA P d f.type a c with
          | none => simp [hq] at h
          | some r =>
            have hr := ih _ _ _ _ _ _ hq va vc w
            simp only [Op.eqFields, hn', ne_eq, not_false_eq_true, if_true, Sem.run_bind, pa, pc, hr, Result.andThen_ok]
            cases r with
            | false => simp [hq] at h; subst h; rfl
            | true => simp only [hq] at h; simpa using eqFields_ok hx hy ih fs b h w

theorem eqElems_ok {d D : Nat} {e : TypeId} {n : Nat} (hn : P.cellsOf e = n) {xs ys : List Value} {xs' ys' : Array Value} (hx : VRs σ xs xs'.toList) (hy : VRs σ ys ys'.toList)
    (ih : ∀ t x y b x' y', eqA P d t x y = some b → VR σ x x' → VR σ y y' → ∀ w, (Op.equalIn D t x' y').run P w = .ok b w) :
    ∀ (k i : Nat) (b : Bool), eqElems P (eqA P d e) e n xs ys k i = some b → ∀ w, (Op.eqItems D e (P.cellsOf e) xs' ys' (List.range' i k)).run P w = .ok b w
  | 0, i, b, h, w => by cases h; rfl
  | k + 1, i, b, h, w => by
    unfold eqElems at h
    cases ha : partA P e xs (i * n) with
    | none => simp [ha] at h
    | some a =>
      cases hb : partA P e ys (i * n) with
      | none => simp [ha, hb] at h
      | some c =>
        simp only [ha, hb] at h
        obtain ⟨a', pa, va⟩ := partA_ok hx ha w
        obtain ⟨c', pc, vc⟩ := partA_ok hy hb w
        cases hq : eqA P d e a c with
        | none => simp [hq] at h
        | some r =>
          have hr := ih _ _ _ _ _ _ hq va vc w
          simp only [List.range'_succ, Op.eqItems, hn, Sem.run_bind, pa, pc, hr, Result.andThen_ok]
          cases r with
          | false => simp [hq] at h; subst h; rfl
          | true =>
            simp only [hq] at h
            have := eqElems_ok hn hx hy ih k (i + 1) b h w
            rw [hn] at this
            simpa using this

theorem eqA_ok : ∀ (d : Nat) (t : TypeId) (x y : Value) (b : Bool) (x' y' : Value), eqA P d t x y = some b → VR σ x x' → VR σ y y' → ∀ (D : Nat) (w : World), d ≤ D → (Op.equalIn D t x' y').run P w = .ok b w
  | 0, t, x, y, b, x', y', h, _, _, D, w, _ => by cases h
  | d + 1, t, x, y, b, x', y', h, hx, hy, D, w, hD => by
    obtain ⟨D, rfl⟩ : ∃ D', D = D' + 1 := ⟨D - 1, by omega⟩
    unfold eqA at h
    cases hu : P.underlying t with
    | none => simp [hu] at h
    | some td =>
      simp only [hu] at h
      split at h
      case h_1 heq =>
        cases heq; cases h
        rw [hx.bool_inv, hy.bool_inv]
        exact run_equalIn_bool w D t _ _ hu
      case h_2 heq =>
        cases heq
        rw [hx.int_inv, hy.int_inv]
        split at h
        · rename_i hk
          cases h
          rw [kindB_eq hk, run_equalIn_int w D t _ _ _ _ hu, eqB_eq]
          rfl
        · cases h
      case h_3 heq =>
        cases heq; cases h
        rw [hx.string_inv, hy.string_inv, run_equalIn_string w D t _ _ hu, ByteArray.toList_eq, ByteArray.toList_eq]
      case h_4 heq =>
        cases heq; cases h
        cases hx
        cases hy <;> simp [Op.equalIn, run_underlying hu]
      case h_5 heq =>
        cases heq; cases h
        cases hx
        cases hy
        simp [Op.equalIn, run_underlying hu]
      case h_6 heq => cases heq; cases h; cases hx; cases hy; simp [Op.equalIn, run_underlying hu]
      case h_7 heq => cases heq; cases h; cases hx; cases hy; simp [Op.equalIn, run_underlying hu]
      case h_8 heq => cases heq; cases h; cases hx; cases hy; simp [Op.equalIn, run_underlying hu]
      case h_9 heq => cases heq; cases h; cases hx; cases hy <;> simp [Op.equalIn, run_underlying hu]
      case h_10 heq => cases heq; cases h; cases hy; cases hx <;> simp [Op.equalIn, run_underlying hu]
      case h_11 heq => cases heq; cases h; cases hx; cases hy; simp [Op.equalIn, run_underlying hu]
      case h_12 heq => cases heq; cases h; cases hx; cases hy <;> simp [Op.equalIn, run_underlying hu]
      case h_13 heq => cases heq; cases h; cases hx <;> cases hy <;> simp [Op.equalIn, run_underlying hu]
      case h_14 heq =>
        rename_i fields xs ys
        cases heq
        obtain ⟨xs', rfl, vx⟩ := hx.agg_inv
        obtain ⟨ys', rfl, vy⟩ := hy.agg_inv
        split at h
        · cases h
        · rename_i hst
          have hf : P.fieldsOf t = fields := by simp [Program.fieldsOf, hu]
          rw [run_equalIn_struct w D t xs' ys' (by rw [hf]; exact hu) (by simpa using hst), hf]
          exact eqFields_ok vx vy (fun t x y b x' y' h1 h2 h3 w => eqA_ok d t x y b x' y' h1 h2 h3 D w (by omega)) _ _ h w
      case h_15 heq =>
        rename_i len e xs ys
        cases heq
        obtain ⟨xs', rfl, vx⟩ := hx.agg_inv
        obtain ⟨ys', rfl, vy⟩ := hy.agg_inv
        cases hs : sizeB P e with
        | none => simp [hs] at h
        | some n =>
          simp only [hs] at h
          cases hi : P.info? e with
          | none => simp [sizeB, hi] at hs
          | some i =>
            have hn : P.cellsOf e = n := by simp [sizeB, hi] at hs; simp [Program.cellsOf, hi, hs]
            rw [run_equalIn_array w D xs' ys' hu hi, List.range_eq_range']
            exact eqElems_ok hn vx vy (fun t x y b x' y' h1 h2 h3 w => eqA_ok d t x y b x' y' h1 h2 h3 D w (by omega)) _ _ _ h w
      case h_16 => cases h
end
end Go.Ab
